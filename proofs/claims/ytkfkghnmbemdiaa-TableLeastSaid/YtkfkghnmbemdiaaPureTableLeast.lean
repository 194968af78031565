/- The statement TableLeast over plain data: true. No condition. -/
import Derived.Test.YtkfkghnmbemdiaaFTableLem
import Derived.Test.YtkfkghnmbemdiaaFTablex9
namespace Go.Proofs.Ytkfkghnmbemdiaa.Pure
open Go.RowKit Go.Proofs.Ytkfkghnmbemdiaa.FTable Go.Proofs.Ytkfkghnmbemdiaa.TableLem Go.Proofs.YtkfkghnmbemdiaaW.PrintWords Go.Proofs.YtkfkghnmbemdiaaW.PrintLast Go.Proofs.YtkfkghnmbemdiaaW.PrintMore
set_option linter.unusedSimpArgs false
set_option linter.unusedVariables false
/-- How many of some ticks, from one on, are the part's. -/
def Sx (T : List Int) (p a : Int) : Nat → Int
  | 0 => 0
  | m + 1 => table_LeastHas.f T (T.length : Int) p a + Sx T p (a + 1) m
theorem Sx_snoc (T : List Int) (p : Int) : ∀ (m : Nat) (a : Int), Sx T p a (m + 1) = Sx T p a m + table_LeastHas.f T (T.length : Int) p (a + m)
  | 0, a => by simp [Sx]
  | m + 1, a => by
    have := Sx_snoc T p m (a + 1)
    rw [Sx, this, Sx, show a + 1 + (m : Int) = a + ((m + 1 : Nat) : Int) by omega]; omega
theorem Sx_le (T : List Int) (p : Int) : ∀ (m : Nat) (a : Int), 0 ≤ Sx T p a m ∧ Sx T p a m ≤ m
  | 0, a => by simp [Sx]
  | m + 1, a => by
    have h1 := Sx_le T p m (a + 1)
    have h2 := table_LeastHas.le T (T.length : Int) p a
    rw [Sx]; omega
theorem has_per (T : List Int) (p a : Int) (h0 : 0 ≤ a) (hl : 0 < T.length) : table_LeastHas.f T (T.length : Int) p (a + T.length) = table_LeastHas.f T (T.length : Int) p a := by
  have : Int.tmod (a + (T.length : Int)) (T.length : Int) = Int.tmod a (T.length : Int) := by
    rw [Int.tmod_eq_emod_of_nonneg (by omega), Int.tmod_eq_emod_of_nonneg h0, Int.add_emod_right]
  unfold table_LeastHas.f; rw [this]
theorem Sx_per (T : List Int) (p : Int) (hl : 0 < T.length) : ∀ (m : Nat) (a : Int), 0 ≤ a → Sx T p (a + T.length) m = Sx T p a m
  | 0, a, _ => rfl
  | m + 1, a, h0 => by
    rw [Sx, Sx, has_per T p a h0 hl, show a + (T.length : Int) + 1 = a + 1 + T.length by omega, Sx_per T p hl m (a + 1) (by omega)]
theorem n1_eq (T : List Int) (p : Int) : ∀ m : Nat, table_Least.n1 T (T.length : Int) p m = Sx T p 0 m
  | 0 => rfl
  | m + 1 => by rw [table_Least.n1, n1_eq T p m, Sx_snoc, Int.zero_add]
theorem n2_eq (T : List Int) (p : Int) (n : Nat) : ∀ j : Nat, (table_Least.n2 T (T.length : Int) p n j).1 = Sx T p j n
  | 0 => n1_eq T p n
  | j + 1 => by
    have h1 := Sx_snoc T p n (j : Int)
    rw [Sx] at h1
    show (table_Least.n2 T (T.length : Int) p n j).1 + _ = _
    rw [n2_eq T p n j, show (((j + 1 : Nat)) : Int) = (j : Int) + 1 from rfl]; omega
def Rm (T : List Int) (p : Int) (n : Nat) : Nat → Int
  | 0 => n
  | j + 1 => if Sx T p j n < Rm T p n j then Sx T p j n else Rm T p n j
theorem n2_Rm (T : List Int) (p : Int) (n : Nat) : ∀ j : Nat, (table_Least.n2 T (T.length : Int) p n j).2 = Rm T p n (j + 1)
  | 0 => by
    show table_Least.n1 T (T.length : Int) p n = _
    rw [n1_eq, Rm, Rm]
    have := Sx_le T p n 0
    rw [show ((0 : Nat) : Int) = 0 from rfl]
    split <;> omega
  | j + 1 => by
    have h1 : (table_Least.n2 T (T.length : Int) p n (j + 1)).2 = mn (table_Least.n2 T (T.length : Int) p n j).2 (table_Least.n2 T (T.length : Int) p n (j + 1)).1 := rfl
    rw [h1, n2_Rm T p n j, n2_eq T p n (j + 1)]
    rfl
theorem Rm_le (T : List Int) (p : Int) (n : Nat) : ∀ j i : Nat, i < j → Rm T p n j ≤ Sx T p i n
  | 0, i, h => by omega
  | j + 1, i, h => by
    rw [Rm]
    by_cases c : i = j
    · subst c; split <;> omega
    · have := Rm_le T p n j i (by omega)
      split <;> omega
theorem least_eq (T : List Int) (p : Int) (n : Nat) (hl : 0 < T.length) : (table_Least.n2 T (T.length : Int) p n T.length).2 = Rm T p n T.length := by
  rw [n2_Rm, Rm]
  have h1 := Rm_le T p n T.length 0 hl
  have h2 := Sx_per T p hl n 0 (by omega)
  rw [Int.zero_add] at h2
  rw [show ((0 : Nat) : Int) = 0 from rfl] at h1
  rw [h2, if_neg (by omega)]
theorem rl1 (T : List Int) (p : Int) (n x7 : Int) (hT : ∀ i, -1 ≤ rd T i) (hl : 0 < T.length ∧ T.length ≤ 240) (hn : 0 ≤ n ∧ n ≤ 2000) (a : Nat) (ha : a < 1000) {F : Nat} {r : Int} : ∀ (m q : Nat) (c : Int), n.toNat = q + m → 0 ≤ c → c ≤ q →
    (∀ k, F ≤ k → (if c + Sx T p ((a : Int) + q) m < x7 then remontoirref13_Least.l0 k T p n (c + Sx T p ((a : Int) + q) m) (wrap64 ((a : Int) + 1)) else remontoirref13_Least.l0 k T p n x7 (wrap64 ((a : Int) + 1))) = some r) →
    ∀ k, F + m + 1 ≤ k → remontoirref13_Least.l1 k T p n x7 a c ((a : Int) + q) = some r
  | 0, q, c, hm, c0, c1, H, k, hk => by
    obtain ⟨k, rfl⟩ : ∃ k', k = k' + 1 := ⟨k - 1, by omega⟩
    have h := H k (by omega)
    rw [Sx, Int.add_zero] at h
    rw [remontoirref13_Least.l1, w64 (n := (a : Int) + n) (by omega) (by omega), if_neg (by omega)]
    exact h
  | m + 1, q, c, hm, c0, c1, H, k, hk => by
    obtain ⟨k, rfl⟩ : ∃ k', k = k' + 1 := ⟨k - 1, by omega⟩
    have tm := table_LeastHas.tm (i := (a : Int) + q) (frame := (T.length : Int)) (by omega) (by omega)
    rw [remontoirref13_Least.l1, w64 (n := (a : Int) + n) (by omega) (by omega), if_pos (by omega), if_neg (by omega), if_pos tm.1, if_pos tm.2, w64 (n := (a : Int) + q + 1) (by omega) (by omega), w64 (n := c + 1) (by omega) (by omega)]
    have hh := hT (Int.tmod ((a : Int) + q) (T.length : Int))
    have st : ∀ v : Int, v = table_LeastHas.f T (T.length : Int) p ((a : Int) + q) → remontoirref13_Least.l1 k T p n x7 a (c + v) ((a : Int) + q + 1) = some r := by
      intro v hv
      have b := table_LeastHas.le T (T.length : Int) p ((a : Int) + q)
      have := rl1 T p n x7 hT hl hn a ha m (q + 1) (c + v) (by omega) (by omega) (by omega) (F := F) (r := r) (by
        intro k hk
        have h := H k hk
        rw [Sx, ← hv, ← Int.add_assoc] at h
        rw [show (a : Int) + ((q + 1 : Nat) : Int) = (a : Int) + q + 1 by omega]
        exact h) k (by omega)
      rw [show (a : Int) + ((q + 1 : Nat) : Int) = (a : Int) + q + 1 by omega] at this
      exact this
    unfold table_LeastHas.f at st
    by_cases e1 : rd T (Int.tmod ((a : Int) + q) (T.length : Int)) = p
    · rw [if_pos e1]
      by_cases e2 : p ≥ 0
      · rw [if_pos e2]; exact st 1 (by rw [if_pos e1, if_neg (by omega)])
      · rw [if_neg e2]
        have := st 0 (by rw [if_pos e1, if_pos (by omega)])
        rw [Int.add_zero] at this; exact this
    · rw [if_neg e1]
      have := st 0 (by rw [if_neg e1])
      rw [Int.add_zero] at this; exact this
theorem rl0 (B : Nat) (T : List Int) (p : Int) (n : Int) (hT : ∀ i, -1 ≤ rd T i) (hl : 0 < T.length ∧ T.length ≤ 240) (hn : 0 ≤ n ∧ n ≤ 2000) (hB : n.toNat + 2 ≤ B) : ∀ (m j : Nat), T.length = j + m → ∀ k, m * B + 1 ≤ k → remontoirref13_Least.l0 k T p n (Rm T p n.toNat j) j = some (Rm T p n.toNat T.length)
  | 0, j, hm, k, hk => by
    obtain ⟨k, rfl⟩ : ∃ k', k = k' + 1 := ⟨k - 1, by omega⟩
    rw [remontoirref13_Least.l0, if_neg (by omega), show T.length = j by omega]
  | m + 1, j, hm, k, hk => by
    obtain ⟨k, rfl⟩ : ∃ k', k = k' + 1 := ⟨k - 1, by omega⟩
    rw [Nat.succ_mul] at hk
    rw [remontoirref13_Least.l0, if_pos (by omega)]
    have := rl1 T p n (Rm T p n.toNat j) hT hl hn j (by omega) (F := m * B + 1) (r := Rm T p n.toNat T.length) n.toNat 0 0 (by omega) (by omega) (by omega) (by
      intro k hk
      rw [Int.zero_add, show (j : Int) + ((0 : Nat) : Int) = j by omega, w64 (by omega) (by omega)]
      have ih := rl0 B T p n hT hl hn hB m (j + 1) (by omega) k hk
      rw [Rm] at ih
      by_cases c : Sx T p j n.toNat < Rm T p n.toNat j
      · rw [if_pos c] at ih ⊢; exact ih
      · rw [if_neg c] at ih ⊢; exact ih) k (by omega)
    rw [show (j : Int) + ((0 : Nat) : Int) = j by omega] at this
    exact this
theorem TableLeast : remontoirlaw13_TableLeast.Pure := by
  intro f l p n hf hl hp hn
  obtain ⟨K, hK⟩ := knows_ev
  have hf' := wf_i64 hf
  have hv : ∀ x ∈ l, -9223372036854775808 ≤ x.f1 ∧ x.f1 ≤ 9223372036854775807 := fun x hx => wf_i64 (hl.2 x hx).2.1
  obtain ⟨k, hk⟩ : ∃ k, k = K + 100000 := ⟨_, rfl⟩
  have k1 : K ≤ k := by omega
  have k2 : 100000 ≤ k := by omega
  clear hk
  refine ⟨k + 2, ?_⟩
  have kn : remontoirlaw13_TableLeast.j0 (k + 2) p n true f l = some true := by
    rw [remontoirlaw13_TableLeast.j0, if_pos rfl, hK _ (by omega)]; rfl
  have main : l.length ≤ 100 → ¬ (n > 300 ∧ n ≤ 2000) → remontoirlaw13_TableLeast.j0 (k + 2) p n false f l = some true := by
    intro g1 g2
    rw [remontoirlaw13_TableLeast.j0, if_neg (by decide)]
    unfold table_Least.f
    have bad : remontoirlaw13_TableLeast.j1 (k + 1) p n 0 1 true f l = some true := by
      rw [remontoirlaw13_TableLeast.j1, if_pos rfl, if_pos rfl, if_pos rfl, hK _ (by omega)]; rfl
    by_cases c : TR f l
    · have h2 := c.2
      rw [Ticks_ev f l (by omega) c (k + 1) (by omega), Option.bind_some, RRight_ev f l (by omega) hv (k + 1) (by omega), if_pos rfl]
      by_cases c1 : n < 0
      · rw [if_pos c1, Option.bind_some, Option.bind_some, decide_eq_true c, if_pos rfl, if_pos c1]; exact bad
      · rw [if_neg c1]
        by_cases c2 : n > 2000
        · rw [if_pos c2, Option.bind_some, Option.bind_some, decide_eq_true c, if_pos rfl, if_neg c1, decide_eq_true c2]; exact bad
        · rw [if_neg c2, if_pos ⟨h2.1, h2.2, by rw [tk_len]; omega⟩, Option.bind_some, Option.bind_some, decide_eq_true c, if_pos rfl, if_neg c1, decide_eq_false c2, remontoirlaw13_TableLeast.j1, if_neg (by decide), RTicks_ev f l (by omega) c k (by omega), Option.bind_some]
          have hlen : ((tk f.toNat (who l)).length : Int) = f := by rw [tk_len]; omega
          have hT : ∀ i, -1 ≤ rd (tk f.toNat (who l)) i := by
            intro i
            by_cases q : 0 ≤ i ∧ i < f
            · rw [tk_rd _ _ _ q.1 (by omega)]; exact (who_ge c.1 i).1
            · by_cases q0 : 0 ≤ i
              · show -1 ≤ (tk f.toNat (who l)).getD i.toNat 0
                rw [List.getD_eq_getElem?_getD, List.getElem?_eq_none (by rw [tk_len]; omega)]; decide
              · show -1 ≤ (tk f.toNat (who l)).getD i.toNat 0
                rw [show i.toNat = 0 by omega]
                have := tk_rd f.toNat (who l) 0 (by omega) (by omega)
                have e : rd (tk f.toNat (who l)) 0 = (tk f.toNat (who l)).getD 0 0 := rfl
                rw [← e, this]; exact (who_ge c.1 0).1
          have := rl0 302 (tk f.toNat (who l)) p n hT (by rw [tk_len]; omega) (by omega) (by omega) (tk f.toNat (who l)).length 0 (by omega) k (by rw [tk_len]; omega)
          have e0 : remontoirref13_Least.f k (tk f.toNat (who l)) p n = some (Rm (tk f.toNat (who l)) p n.toNat (tk f.toNat (who l)).length) := by
            rw [Rm] at this
            rw [show ((n.toNat : Nat) : Int) = n by omega] at this
            exact this
          have e1 := least_eq (tk f.toNat (who l)) p n.toNat (by rw [tk_len]; omega)
          rw [hlen] at e1
          rw [tk_len] at e0 e1
          rw [e0, Option.bind_some, if_pos e1, if_pos rfl, hK _ k1]; rfl
    · rw [Ticks_bad f hf' l (by omega) c (k + 1) (by omega), Option.bind_some, RRight_ev f l (by omega) hv (k + 1) (by omega), if_neg (by decide), Option.bind_some, Option.bind_some, decide_eq_false c, if_neg (by decide)]; exact bad
  unfold remontoirlaw13_TableLeast.f
  by_cases g1 : l.length > 100
  · rw [if_pos (by omega)]; exact kn
  · rw [if_neg (by omega)]
    by_cases g2 : n > 300
    · rw [if_pos g2]
      by_cases g3 : n ≤ 2000
      · rw [decide_eq_true g3]; exact kn
      · rw [decide_eq_false g3]; exact main (by omega) (by omega)
    · rw [if_neg g2]; exact main (by omega) (by omega)
end Go.Proofs.Ytkfkghnmbemdiaa.Pure
