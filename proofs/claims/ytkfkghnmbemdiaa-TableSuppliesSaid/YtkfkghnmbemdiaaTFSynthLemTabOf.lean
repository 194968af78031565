/- What table.Of comes to: a row of windows of just these ticks: lemmas for the statements of layer 13. No condition. -/
import Derived.Test.YtkfkghnmbemdiaaTFSynthLemTab
namespace Go.Proofs.Ytkfkghnmbemdiaa.TableOf
open Go.RowKit Go.Proofs.Ytkfkghnmbemdiaa.FSynth Go.Proofs.Ytkfkghnmbemdiaa.SynTab Go.Proofs.YtkfkghnmbemdiaaW.PrintWords Go.Proofs.YtkfkghnmbemdiaaW.PrintLast Go.Proofs.YtkfkghnmbemdiaaW.PrintMore
set_option linter.unusedSimpArgs false
set_option linter.unusedVariables false
def cnt : List Int → Int
  | [] => 0
  | x :: l => (if 0 ≤ x then 1 else 0) + cnt l
theorem cnt_snoc : ∀ (l : List Int) (x : Int), cnt (l ++ [x]) = cnt l + (if 0 ≤ x then 1 else 0)
  | [], x => by simp [cnt]
  | y :: l, x => by show _ + cnt (l ++ [x]) = _; rw [cnt_snoc l x, cnt]; omega
theorem rd_get (x : List Int) (i : Nat) (hi : i < x.length) : rd x (i : Int) = x[i] := by
  show x.getD (i : Int).toNat 0 = _
  rw [Int.toNat_natCast, List.getD_eq_getElem?_getD, List.getElem?_eq_getElem hi]; rfl
theorem take_snoc (x : List Int) (i : Nat) (hi : i < x.length) : x.take (i + 1) = x.take i ++ [rd x (i : Int)] := by
  rw [List.take_add_one, List.getElem?_eq_getElem hi, rd_get x i hi]; rfl
def Inv (x : List Int) (i : Nat) (ws : List S46) (last : Int) : Prop :=
  RI x.length 0 (-1) ws ∧ eo 0 ws ≤ i ∧ (∀ t : Int, whoL ws t (-1) = if 0 ≤ t ∧ t < i then rd x t else -1) ∧ (i = 0 → last = -1) ∧ (0 < i → last = rd x ((i : Int) - 1)) ∧ (last ≠ -1 → ∃ us u, ws = us ++ [u] ∧ u.f0 = last ∧ u.f1 + u.f2 = (i : Int)) ∧ sumL ws = cnt (x.take i) ∧ ws.length ≤ i
theorem lst_snoc (us : List S46) (u : S46) : table_OfAdd.lst (us ++ [u]) = u := by
  unfold table_OfAdd.lst rd_T46
  rw [show (((us ++ [u]).length : Int) - 1).toNat = us.length by rw [List.length_append, List.length_singleton]; omega]
  simp
theorem set_snoc (us : List S46) (u v : S46) : (us ++ [u]).set (((us ++ [u]).length : Int) - 1).toNat v = us ++ [v] := by
  rw [show (((us ++ [u]).length : Int) - 1).toNat = us.length by rw [List.length_append, List.length_singleton]; omega]
  simp
theorem step (x : List Int) (i : Nat) (ws : List S46) (last : Int) (h : Inv x i ws last) (hi : i < x.length) (h0 : -1 ≤ rd x (i : Int)) (h1 : rd x (i : Int) ≤ 3) (hx : x.length ≤ 240) :
    (rd x (i : Int) = last → rd x (i : Int) ≠ -1 → 0 < ws.length ∧ 0 ≤ (table_OfAdd.lst ws).f2 ∧ (table_OfAdd.lst ws).f2 < 1000000) ∧ Inv x (i + 1) (table_OfAdd.f ws last (i : Int) (rd x (i : Int))) (rd x (i : Int)) := by
  obtain ⟨a1, a2, a3, a4, a5, a6, a7, a8⟩ := h
  obtain ⟨c, ec⟩ : ∃ c, c = rd x (i : Int) := ⟨_, rfl⟩
  have hs : cnt (x.take (i + 1)) = cnt (x.take i) + (if 0 ≤ c then 1 else 0) := by rw [take_snoc x i hi, cnt_snoc, ec]
  rw [← ec] at h0 h1 ⊢
  have hlast : 0 < i + 1 → c = rd x (((i + 1 : Nat) : Int) - 1) := fun _ => by rw [show (((i + 1 : Nat) : Int) - 1) = (i : Int) by omega]; exact ec
  unfold table_OfAdd.f
  by_cases e1 : c = last
  · rw [if_pos e1]
    by_cases e2 : c = -1
    · rw [if_pos e2]
      refine ⟨fun _ q => absurd e2 q, a1, by omega, ?_, fun h => by omega, hlast, fun q => absurd e2 q, by rw [hs, if_neg (by omega)]; omega, by omega⟩
      intro t
      rw [a3 t]
      by_cases ht : t = i
      · rw [if_neg (by omega), if_pos (by omega), ht, ← ec, e2]
      · by_cases q : 0 ≤ t ∧ t < (i : Int)
        · rw [if_pos q, if_pos (by omega)]
        · rw [if_neg q, if_neg (by omega)]
    · rw [if_neg e2]
      obtain ⟨us, u, rfl, u0, u1⟩ := a6 (by omega)
      rw [lst_snoc, set_snoc]
      obtain ⟨r1, r2⟩ := (RI_snoc _ _ _ us u).1 a1
      have r2' := r2
      unfold okw at r2
      have hl : (us ++ [u]).length = us.length + 1 := by simp
      refine ⟨fun _ _ => ⟨by rw [hl]; omega, by omega, by omega⟩, ?_, ?_, ?_, fun h => by omega, hlast, fun _ => ⟨us, _, rfl, ?_, ?_⟩, ?_, ?_⟩
      · refine (RI_snoc _ _ _ us _).2 ⟨r1, ?_⟩
        unfold okw; dsimp only
        omega
      · rw [eo_snoc]; dsimp only; omega
      · intro t
        have := a3 t
        rw [whoL_snoc] at this ⊢
        by_cases ht : t = i
        · rw [if_pos (by unfold inw; dsimp only; omega), if_pos (by omega), ht, ← ec]; dsimp only; omega
        · by_cases q : inw u t
          · rw [if_pos q] at this
            unfold inw at q
            rw [if_pos (by unfold inw; dsimp only; omega)]
            rw [if_pos (by omega)] at this ⊢
            exact this
          · rw [if_neg q] at this
            unfold inw at q
            rw [if_neg (by unfold inw; dsimp only; omega), this]
            by_cases q2 : 0 ≤ t ∧ t < (i : Int)
            · rw [if_pos q2, if_pos (by omega)]
            · rw [if_neg q2, if_neg (by omega)]
      · dsimp only; omega
      · dsimp only; omega
      · rw [sumL_snoc] at a7 ⊢
        rw [hs, if_pos (by omega)]; dsimp only; omega
      · simp at a8 ⊢; omega
  · rw [if_neg e1]
    clear a6
    by_cases e2 : c = -1
    · rw [if_pos e2]
      refine ⟨fun q => absurd q e1, a1, by omega, ?_, fun h => by omega, hlast, fun q => absurd e2 q, by rw [hs, if_neg (by omega)]; omega, by omega⟩
      intro t
      rw [a3 t]
      by_cases ht : t = i
      · rw [if_neg (by omega), if_pos (by omega), ht, ← ec, e2]
      · by_cases q : 0 ≤ t ∧ t < (i : Int)
        · rw [if_pos q, if_pos (by omega)]
        · rw [if_neg q, if_neg (by omega)]
    · rw [if_neg e2]
      have hne : ¬ ((i : Int) = eo 0 ws ∧ c = po (-1) ws) := by
        rintro ⟨q1, q2⟩
        rcases List.eq_nil_or_concat ws with rfl | ⟨us, u, rfl⟩
        · exact e2 q2
        · rw [List.concat_eq_append] at *
          rw [eo_snoc] at q1
          rw [po_snoc] at q2
          obtain ⟨r1, r2⟩ := (RI_snoc _ _ _ us u).1 a1
          unfold okw at r2
          have := a3 ((i : Int) - 1)
          rw [whoL_snoc, if_pos (by unfold inw; omega), if_pos (by omega)] at this
          have := a5 (by omega)
          omega
      refine ⟨fun q => absurd q e1, ?_, ?_, ?_, fun h => by omega, hlast, fun _ => ⟨ws, _, rfl, rfl, ?_⟩, ?_, ?_⟩
      · refine (RI_snoc _ _ _ ws _).2 ⟨a1, ?_⟩
        unfold okw; dsimp only
        omega
      · rw [eo_snoc]; dsimp only; omega
      · intro t
        rw [whoL_snoc]
        by_cases ht : t = i
        · rw [if_pos (by unfold inw; dsimp only; omega), if_pos (by omega), ht, ← ec]
        · rw [if_neg (by unfold inw; dsimp only; omega), a3 t]
          by_cases q : 0 ≤ t ∧ t < (i : Int)
          · rw [if_pos q, if_pos (by omega)]
          · rw [if_neg q, if_neg (by omega)]
      · dsimp only; omega
      · rw [sumL_snoc, hs, if_pos (by omega)]; dsimp only; omega
      · simp; omega
/-- Which ticks may be. -/
def okt (x : List Int) : Prop := ∀ i : Nat, i < x.length → -1 ≤ rd x (i : Int) ∧ rd x (i : Int) ≤ 3
theorem of_good (x : List Int) (hx : x.length ≤ 240) (ok : okt x) : ∀ n (i : Nat) (ws : List S46) (last : Int), x.length = i + n → Inv x i ws last → ∃ W last', (∀ k, n + 1 ≤ k → table_Of.l0 k x i ws last = some ((x.length : Int), W, 0)) ∧ Inv x x.length W last'
  | 0, i, ws, last, hn, h => by
    refine ⟨ws, last, ?_, by rw [show x.length = i by omega]; exact h⟩
    intro k hk
    obtain ⟨k, rfl⟩ : ∃ k', k = k' + 1 := ⟨k - 1, by omega⟩
    rw [table_Of.l0, if_neg (by omega)]
  | n + 1, i, ws, last, hn, h => by
    have hv := ok i (by omega)
    obtain ⟨s1, s2⟩ := step x i ws last h (by omega) hv.1 hv.2 hx
    obtain ⟨W, l', e, q⟩ := of_good x hx ok n (i + 1) _ _ (by omega) s2
    refine ⟨W, l', ?_, q⟩
    intro k hk
    obtain ⟨k, rfl⟩ : ∃ k', k = k' + 1 := ⟨k - 1, by omega⟩
    have h8 := h.2.2.2.2.2.2.2
    rw [table_Of.l0, if_pos (by omega), if_neg (by omega), if_neg (by omega), if_pos ⟨by omega, s1⟩]
    exact e k (by omega)
theorem of_bad (x : List Int) (hx : x.length ≤ 240) : ∀ n (i : Nat) (ws : List S46) (last : Int), x.length = i + n → Inv x i ws last → (∃ j, i ≤ j ∧ j < x.length ∧ ¬ (-1 ≤ rd x (j : Int) ∧ rd x (j : Int) ≤ 3)) → ∀ k, n + 1 ≤ k → table_Of.l0 k x i ws last = some (0, [], 1)
  | 0, i, ws, last, hn, h, ⟨j, j1, j2, _⟩, k, hk => by omega
  | n + 1, i, ws, last, hn, h, ⟨j, j1, j2, j3⟩, k, hk => by
    obtain ⟨k, rfl⟩ : ∃ k', k = k' + 1 := ⟨k - 1, by omega⟩
    rw [table_Of.l0, if_pos (by omega)]
    by_cases c1 : rd x (i : Int) < -1
    · rw [if_pos c1]
    · rw [if_neg c1]
      by_cases c2 : rd x (i : Int) ≥ 4
      · rw [if_pos c2]
      · rw [if_neg c2]
        obtain ⟨s1, s2⟩ := step x i ws last h (by omega) (by omega) (by omega) hx
        have h8 := h.2.2.2.2.2.2.2
        rw [if_pos ⟨by omega, s1⟩]
        have : i ≠ j := by rintro rfl; exact j3 (by omega)
        exact of_bad x hx n (i + 1) _ _ (by omega) s2 ⟨j, by omega, j2, j3⟩ k (by omega)
theorem inv0 (x : List Int) : Inv x 0 [] (-1) := ⟨trivial, by simp [eo], fun t => by rw [if_neg (by omega)]; rfl, fun _ => rfl, fun h => by omega, fun h => absurd rfl h, rfl, by simp⟩
theorem Of_bad (x : List Int) (h : ¬ (0 < x.length ∧ x.length ≤ 240 ∧ okt x)) (k : Nat) (hk : 300 ≤ k) : table_Of.f k x = some (0, [], 1) := by
  unfold table_Of.f
  by_cases c1 : (x.length : Int) = 0
  · rw [if_pos c1]
  · rw [if_neg c1]
    by_cases c2 : (x.length : Int) > 240
    · rw [if_pos c2]
    · rw [if_neg c2]
      refine of_bad x (by omega) x.length 0 [] (-1) (by omega) (inv0 x) ?_ k (by omega)
      have : ¬ okt x := fun q => h ⟨by omega, by omega, q⟩
      unfold okt at this
      simp only [Classical.not_forall] at this
      obtain ⟨j, j1, j2⟩ := this
      exact ⟨j, by omega, j1, j2⟩
theorem Of_good (x : List Int) (h0 : 0 < x.length) (h1 : x.length ≤ 240) (ok : okt x) : ∃ W, (∀ k, 300 ≤ k → table_Of.f k x = some ((x.length : Int), W, 0)) ∧ TR x.length W ∧ tk x.length (who W) = x ∧ (∀ t, 0 ≤ t → t < (x.length : Int) → who W t = rd x t) ∧ sumL W = cnt x ∧ W.length ≤ 240 ∧ (∀ t, ¬ (0 ≤ t ∧ t < (x.length : Int)) → who W t = -1) := by
  obtain ⟨W, l', e, a1, a2, a3, a4, a5, a6, a7, a8⟩ := of_good x h1 ok x.length 0 [] (-1) (by omega) (inv0 x)
  have hw : ∀ t, 0 ≤ t → t < (x.length : Int) → who W t = rd x t := fun t t0 t1 => by rw [← whoL_who a1 t, a3 t, if_pos ⟨t0, t1⟩]
  refine ⟨W, ?_, ⟨a1, by omega, by omega⟩, ?_, hw, by rw [a7, List.take_of_length_le (Nat.le_refl _)], by omega, fun t ht => by rw [← whoL_who a1 t, a3 t, if_neg ht]⟩
  · intro k hk
    unfold table_Of.f
    rw [if_neg (by omega), if_neg (by omega)]
    exact e k (by omega)
  · apply List.ext_getElem
    · rw [tk_len]
    · intro j j1 j2
      have := hw j (by omega) (by omega)
      rw [rd_get x j j2] at this
      rw [← this]
      simp [tk]
theorem same_refl : ∀ n (f : Int) (l : List S46) (i : Nat), l.length = i + n → l.length < 1000000 → ∀ k, n + 1 ≤ k → remontoirlaw13_Same.l0 k i f l f l = some true
  | 0, f, l, i, hn, hl, k, hk => by
    obtain ⟨k, rfl⟩ : ∃ k', k = k' + 1 := ⟨k - 1, by omega⟩
    rw [remontoirlaw13_Same.l0, if_neg (by omega)]
  | n + 1, f, l, i, hn, hl, k, hk => by
    obtain ⟨k, rfl⟩ : ∃ k', k = k' + 1 := ⟨k - 1, by omega⟩
    rw [remontoirlaw13_Same.l0, if_pos (by omega), if_pos (by omega), if_pos (by omega), if_neg (by simp), w64 (by omega) (by omega)]
    exact same_refl n f l (i + 1) (by omega) hl k (by omega)
theorem Same_ev (f g : Int) (l m : List S46) (e1 : f = g) (e2 : l = m) (hl : l.length < 1000000) (k : Nat) (hk : l.length + 2 ≤ k) : remontoirlaw13_Same.f k f l g m = some true := by
  subst e1; subst e2
  obtain ⟨k, rfl⟩ : ∃ k', k = k' + 1 := ⟨k - 1, by omega⟩
  unfold remontoirlaw13_Same.f
  rw [if_pos rfl, remontoirlaw13_Same.j0, if_neg (by simp)]
  exact same_refl l.length f l 0 (by omega) hl k (by omega)
/-- The table of a table's ticks is it. -/
theorem Of_back (f : Int) (l : List S46) (h : TR f l) (k : Nat) (hk : 300 ≤ k) : table_Of.f k (tk f.toNat (who l)) = some (f, l, 0) := by
  have h2 := h.2
  have hlen : (tk f.toNat (who l)).length = f.toNat := tk_len _ _
  obtain ⟨W, e, w1, w2, w3, _, _, w4⟩ := Of_good (tk f.toNat (who l)) (by omega) (by omega) (fun i hi => by
    rw [tk_rd _ _ _ (by omega) (by omega)]; exact who_ge h.1 i)
  rw [e k hk]
  have hf : ((tk f.toNat (who l)).length : Int) = f := by omega
  rw [hf] at w1 w3 w4 ⊢
  have : W = l := by
    refine unique w1.1 h.1 (fun t => ?_)
    by_cases c : 0 ≤ t ∧ t < f
    · rw [w3 t c.1 c.2, tk_rd _ _ _ c.1 (by omega)]
    · rw [w4 t c]
      by_cases c2 : t < 0
      · exact (who_old h.1 t c2).symm
      · exact (who_far h.1 t (by omega)).symm
  rw [this]
end Go.Proofs.Ytkfkghnmbemdiaa.TableOf
