/- The statement TableSupplies over plain data: true. No condition. -/
import Derived.Test.YtkfkghnmbemdiaaTFSynthLem
import Derived.Test.YtkfkghnmbemdiaaTFSynthx11
import Derived.Test.YtkfkghnmbemdiaaTFSynthLemPat
import Derived.Test.YtkfkghnmbemdiaaTFSynthLemBnd
import Derived.Test.YtkfkghnmbemdiaaTFSynthLemTabOf
namespace Go.Proofs.Ytkfkghnmbemdiaa.Pure
open Go.RowKit Go.Proofs.Ytkfkghnmbemdiaa.FSynth Go.Proofs.Ytkfkghnmbemdiaa.SynthLem Go.Proofs.Ytkfkghnmbemdiaa.SynthLay Go.Proofs.Ytkfkghnmbemdiaa.SynthSpec Go.Proofs.Ytkfkghnmbemdiaa.SynthPat Go.Proofs.Ytkfkghnmbemdiaa.SynTab Go.Proofs.Ytkfkghnmbemdiaa.TableOf Go.Proofs.YtkfkghnmbemdiaaW.PrintWords Go.Proofs.YtkfkghnmbemdiaaW.PrintLast Go.Proofs.YtkfkghnmbemdiaaW.PrintMore
set_option linter.unusedSimpArgs false
set_option linter.unusedVariables false
/-- How many of some ticks, from one on, are the part's. -/
def Sx (T : List Int) (p a : Int) : Nat → Int
  | 0 => 0
  | m + 1 => table_LeastHas.f T (T.length : Int) p a + Sx T p (a + 1) m
theorem Sx_snoc (T : List Int) (p : Int) : ∀ (m : Nat) (a : Int), Sx T p a (m + 1) = Sx T p a m + table_LeastHas.f T (T.length : Int) p (a + m)
  | 0, a => by simp [Sx]
  | m + 1, a => by
    have := Sx_snoc T p m (a + 1)
    rw [Sx, this, Sx, show a + 1 + (m : Int) = a + ((m + 1 : Nat) : Int) by omega]; omega
theorem Sx_le (T : List Int) (p : Int) : ∀ (m : Nat) (a : Int), 0 ≤ Sx T p a m ∧ Sx T p a m ≤ m
  | 0, a => by simp [Sx]
  | m + 1, a => by
    have h1 := Sx_le T p m (a + 1)
    have h2 := table_LeastHas.le T (T.length : Int) p a
    rw [Sx]; omega
theorem has_per (T : List Int) (p a : Int) (h0 : 0 ≤ a) (hl : 0 < T.length) : table_LeastHas.f T (T.length : Int) p (a + T.length) = table_LeastHas.f T (T.length : Int) p a := by
  have : Int.tmod (a + (T.length : Int)) (T.length : Int) = Int.tmod a (T.length : Int) := by
    rw [Int.tmod_eq_emod_of_nonneg (by omega), Int.tmod_eq_emod_of_nonneg h0, Int.add_emod_right]
  unfold table_LeastHas.f; rw [this]
theorem Sx_per (T : List Int) (p : Int) (hl : 0 < T.length) : ∀ (m : Nat) (a : Int), 0 ≤ a → Sx T p (a + T.length) m = Sx T p a m
  | 0, a, _ => rfl
  | m + 1, a, h0 => by
    rw [Sx, Sx, has_per T p a h0 hl, show a + (T.length : Int) + 1 = a + 1 + T.length by omega, Sx_per T p hl m (a + 1) (by omega)]
theorem n1_eq (T : List Int) (p : Int) : ∀ m : Nat, table_Least.n1 T (T.length : Int) p m = Sx T p 0 m
  | 0 => rfl
  | m + 1 => by rw [table_Least.n1, n1_eq T p m, Sx_snoc, Int.zero_add]
theorem n2_eq (T : List Int) (p : Int) (n : Nat) : ∀ j : Nat, (table_Least.n2 T (T.length : Int) p n j).1 = Sx T p j n
  | 0 => n1_eq T p n
  | j + 1 => by
    have h1 := Sx_snoc T p n (j : Int)
    rw [Sx] at h1
    show (table_Least.n2 T (T.length : Int) p n j).1 + _ = _
    rw [n2_eq T p n j, show (((j + 1 : Nat)) : Int) = (j : Int) + 1 from rfl]; omega
def Rm (T : List Int) (p : Int) (n : Nat) : Nat → Int
  | 0 => n
  | j + 1 => if Sx T p j n < Rm T p n j then Sx T p j n else Rm T p n j
theorem n2_Rm (T : List Int) (p : Int) (n : Nat) : ∀ j : Nat, (table_Least.n2 T (T.length : Int) p n j).2 = Rm T p n (j + 1)
  | 0 => by
    show table_Least.n1 T (T.length : Int) p n = _
    rw [n1_eq, Rm, Rm]
    have := Sx_le T p n 0
    rw [show ((0 : Nat) : Int) = 0 from rfl]
    split <;> omega
  | j + 1 => by
    have h1 : (table_Least.n2 T (T.length : Int) p n (j + 1)).2 = mn (table_Least.n2 T (T.length : Int) p n j).2 (table_Least.n2 T (T.length : Int) p n (j + 1)).1 := rfl
    rw [h1, n2_Rm T p n j, n2_eq T p n (j + 1)]
    rfl
theorem Rm_le (T : List Int) (p : Int) (n : Nat) : ∀ j i : Nat, i < j → Rm T p n j ≤ Sx T p i n
  | 0, i, h => by omega
  | j + 1, i, h => by
    rw [Rm]
    by_cases c : i = j
    · subst c; split <;> omega
    · have := Rm_le T p n j i (by omega)
      split <;> omega
theorem least_eq (T : List Int) (p : Int) (n : Nat) (hl : 0 < T.length) : (table_Least.n2 T (T.length : Int) p n T.length).2 = Rm T p n T.length := by
  rw [n2_Rm, Rm]
  have h1 := Rm_le T p n T.length 0 hl
  have h2 := Sx_per T p hl n 0 (by omega)
  rw [Int.zero_add] at h2
  rw [show ((0 : Nat) : Int) = 0 from rfl] at h1
  rw [h2, if_neg (by omega)]
/-- What holds of all sums holds of their least. -/
theorem Rm_ge (T : List Int) (p : Int) (n : Nat) (x : Int) (h0 : x ≤ n) (h : ∀ i, x ≤ Sx T p (i : Nat) n) : ∀ j, x ≤ Rm T p n j
  | 0 => h0
  | j + 1 => by
    have h1 := Rm_ge T p n x h0 h j
    have h2 := h j
    rw [Rm]; split <;> omega
theorem Sx_cnt (G : List Int) (hG : 1 ≤ G.length) (j : Nat) (a : Nat) : ∀ n : Nat, Sx G (j : Int) (a : Int) n = SupplyMath.cnt (Pt G j) (a + n) - SupplyMath.cnt (Pt G j) a
  | 0 => by rw [Sx, Nat.add_zero]; omega
  | n + 1 => by
    rw [Sx_snoc, Sx_cnt G hG j a n, ← Nat.add_assoc, SupplyMath.cnt_succ]
    have e : table_LeastHas.f G (G.length : Int) (j : Int) ((a : Int) + (n : Int)) = if Pt G j (a + n) = true then 1 else 0 := by
      unfold table_LeastHas.f Pt
      rw [Int.tmod_eq_emod_of_nonneg (by omega), show ((a : Int) + (n : Int)) % (G.length : Int) = ((((a + n) % G.length : Nat)) : Int) from by rw [Int.natCast_emod]; rfl]
      by_cases c : rd G (((a + n) % G.length : Nat) : Int) = (j : Int)
      · rw [if_pos c, if_neg (by omega), if_pos (by simpa using c)]
      · rw [if_neg c, if_neg (by simpa using c)]
    rw [e]; omega
theorem okt_of {l : List S54} {fr : Nat} {G : List Int} (L : Laid l fr G) : okt G := by
  intro i hi
  have h4 := L.four
  rcases L.pk i hi with ⟨h, _⟩ | ⟨m, h, _, h2, _⟩
  · omega
  · omega
set_option maxRecDepth 100000 in
theorem TableSupplies : remontoirlaw13_TableSupplies.Pure := by
  intro l a n hl ha hn
  obtain ⟨K, hK⟩ := SynTab.knows_ev
  have ha' : 0 ≤ a ∧ a ≤ 255 := (show IntKind.u8.min ≤ a ∧ a ≤ IntKind.u8.max by simpa [Lit.wf] using ha)
  obtain ⟨k, hk⟩ : ∃ k, k = K + 500000 := ⟨_, rfl⟩
  have k1 : K + 500000 ≤ k := by omega
  clear hk
  refine ⟨k + 2, ?_⟩
  have kn : remontoirlaw13_TableSupplies.j0 (k + 2) l a n true = some true := by
    rw [remontoirlaw13_TableSupplies.j0, if_pos rfl, hK _ (by omega)]; rfl
  unfold remontoirlaw13_TableSupplies.f
  by_cases hg : l.length > 20
  · rw [if_pos (by omega)]; exact kn
  rw [if_neg (by omega)]
  by_cases hn0 : n < 0
  · rw [if_pos hn0]; exact kn
  rw [if_neg hn0]
  by_cases hn1 : n > 2000
  · rw [decide_eq_true hn1]; exact kn
  rw [decide_eq_false hn1, remontoirlaw13_TableSupplies.j0, if_neg (by decide)]
  have fin : ∀ e : Int, e ≠ 0 → synth_Lay.f (k + 1) l = some ([], e) → remontoirref12_Lay.f (k + 1) l = some ([], e) → ((table_Make.f (k + 1) l).bind fun bt314 => ((remontoirref12_Lay.f (k + 1) l).bind fun bt320 => (if bt320.2 = 0 then (remontoirlaw13_TableSupplies.j1 (k + 1) l a n bt314.2.2 bt320.1 bt320.2 ((l.length : Int) == 0) bt314.1 bt314.2.1) else (remontoirlaw13_TableSupplies.j1 (k + 1) l a n bt314.2.2 bt320.1 bt320.2 true bt314.1 bt314.2.1)))) = some true := by
    intro e he h h2
    unfold table_Make.f
    rw [h, Option.bind_some, if_neg he, Option.bind_some, h2, Option.bind_some, if_neg he]
    dsimp only
    rw [remontoirlaw13_TableSupplies.j1, if_pos rfl, if_neg he, Same_ev 0 0 [] [] rfl rfl (by simp) k (by simp; omega), Option.bind_some, if_pos rfl, if_pos rfl, hK _ (by omega)]; rfl
  rcases Lay_ev l with ⟨fr, G, L, h⟩ | ⟨fr, e, G, L, h⟩ | ⟨e, he, h⟩
  · have hG := L.len
    have hm := L.most
    have hp := L.pos
    obtain ⟨W, hW, hTR, htk, hwho, _, hWl, _⟩ := Of_good G (by omega) (by omega) (okt_of L)
    have hmk : table_Make.f (k + 1) l = some ((G.length : Int), W, 0) := by
      unfold table_Make.f
      rw [(h (k + 1) (by omega)).1, Option.bind_some, if_pos rfl, hW _ (by omega)]; rfl
    rw [hmk, Option.bind_some, (h (k + 1) (by omega)).2.1, Option.bind_some, if_pos rfl]
    dsimp only
    by_cases hz : l.length = 0
    · rw [show ((l.length : Int) == 0) = true by simp [hz], remontoirlaw13_TableSupplies.j1, if_pos rfl, if_pos rfl, if_pos rfl, hK _ (by omega)]; rfl
    rw [show ((l.length : Int) == 0) = false from by rw [beq_eq_false_iff_ne]; omega, remontoirlaw13_TableSupplies.j1, if_neg (by decide), if_neg (by omega)]
    obtain ⟨j, hj, ej⟩ : ∃ j : Nat, j < l.length ∧ Int.tmod (wrap64 a) (l.length : Int) = (j : Int) := by
      rw [SynTab.w64 (by omega) (by omega), Int.tmod_eq_emod_of_nonneg (by omega)]
      have h1 := Int.emod_nonneg a (show (l.length : Int) ≠ 0 by omega)
      have h2 := Int.emod_lt_of_pos a (show (0 : Int) < l.length by omega)
      exact ⟨(a % (l.length : Int)).toNat, by omega, by omega⟩
    rw [ej]
    have hR := Rt_of L.rt hj
    have hle : table_Least.f k (G.length : Int) W (j : Int) n = some (Rm G (j : Int) n.toNat G.length, 0) := by
      unfold table_Least.f
      rw [Ticks_ev _ W (by omega) hTR k (by omega), Option.bind_some, if_pos rfl, if_neg hn0, if_neg hn1, Int.toNat_natCast, htk, if_pos ⟨by omega, by omega, rfl⟩]
      rw [least_eq G (j : Int) n.toNat (by omega)]
    have hb : remontoirref09_Bound.f k ((rd_T54 l (j : Int)).f0) ((rd_T54 l (j : Int)).f1) n = some (SupplyMath.SB (Pe l j) (Bu l j) n) := SynthBnd.rbound_ev (Pe l j) (Bu l j) n hR (by omega) (by omega) k (by omega)
    have hge : Rm G (j : Int) n.toNat G.length ≥ SupplyMath.SB (Pe l j) (Bu l j) n := by
      obtain ⟨m, rfl⟩ : ∃ m : Nat, n = m := ⟨n.toNat, by omega⟩
      rw [Int.toNat_natCast]
      refine Rm_ge G (j : Int) m _ (SupplyMath.SB_range hR (by omega)).2 (fun i => ?_) G.length
      rw [Sx_cnt G (by omega)]
      exact pt_window L hj i m
    have htt := RTicks_ev (G.length : Int) W (by omega) hTR k (by omega)
    rw [Int.toNat_natCast, htk] at htt
    rw [hle, Option.bind_some, if_pos rfl, if_pos rfl, htt, Option.bind_some, SynTab.SameInts_ev G G rfl (by omega) k (by omega), Option.bind_some, if_pos rfl, if_pos (by omega), if_pos (by omega), hb, Option.bind_some, if_pos hge, hK _ (by omega)]
    rfl
  · exact fin 7 (by omega) (h (k + 1) (by omega)).1 (h (k + 1) (by omega)).2.1
  · exact fin e (by omega) (h (k + 1) (by omega)).1 (h (k + 1) (by omega)).2.1
end Go.Proofs.Ytkfkghnmbemdiaa.Pure
