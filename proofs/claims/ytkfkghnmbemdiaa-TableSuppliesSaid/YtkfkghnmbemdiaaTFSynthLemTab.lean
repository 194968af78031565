/- What the functions of package table, and of its reference, come to: lemmas for the statements of layer 13. No condition. -/
import Derived.Test.YtkfkghnmbemdiaaTFSynthx0
import Derived.Test.YtkfkghnmbemdiaaTFSynthx2
import Derived.Test.YtkfkghnmbemdiaaTFSynthx3
import Derived.Test.YtkfkghnmbemdiaaTFSynthx4
import Derived.Test.YtkfkghnmbemdiaaTFSynthx5
import Derived.Test.YtkfkghnmbemdiaaTFSynthx6
import Derived.Test.YtkfkghnmbemdiaaTFSynthx7
import Derived.Test.YtkfkghnmbemdiaaTFSynthx8
import Derived.Test.YtkfkghnmbemdiaaTFSynthx9
import Derived.Test.YtkfkghnmbemdiaaTFSynthx10
namespace Go.Proofs.Ytkfkghnmbemdiaa.SynTab
open Go.RowKit Go.Proofs.Ytkfkghnmbemdiaa.FSynth Go.Proofs.YtkfkghnmbemdiaaW.PrintWords Go.Proofs.YtkfkghnmbemdiaaW.PrintLast Go.Proofs.YtkfkghnmbemdiaaW.PrintMore
set_option linter.unusedSimpArgs false
set_option linter.unusedVariables false

theorem w64 {n : Int} (h1 : -9223372036854775808 ≤ n) (h2 : n ≤ 9223372036854775807) : wrap64 n = n := by unfold wrap64; omega
theorem wf_i64 {a : Int} (h : (Lit.int .i64 a).wf = true) : -9223372036854775808 ≤ a ∧ a ≤ 9223372036854775807 := (show IntKind.i64.min ≤ a ∧ a ≤ IntKind.i64.max by simpa [Lit.wf] using h)
theorem knows_ev : ∃ K, ∀ k, K ≤ k → remontoirlaw13_knows.f k = some true := Ev.of (fun k => remontoirlaw13_knows.mono k) (k := 40) (by kernel_rfl)

/-! ### Windows -/
/-- A window behind a place, in a frame. -/
def okw (f e p : Int) (w : S46) : Prop := 0 ≤ w.f0 ∧ w.f0 < 4 ∧ 0 ≤ w.f1 ∧ w.f1 < f ∧ 1 ≤ w.f2 ∧ w.f2 ≤ f - w.f1 ∧ e ≤ w.f1 ∧ ¬ (w.f1 = e ∧ w.f0 = p)
instance (f e p : Int) (w : S46) : Decidable (okw f e p w) := by unfold okw; infer_instance
def RI (f : Int) : Int → Int → List S46 → Prop
  | _, _, [] => True
  | e, p, w :: l => okw f e p w ∧ RI f (w.f1 + w.f2) w.f0 l
instance decRI (f : Int) : ∀ (e p : Int) (l : List S46), Decidable (RI f e p l)
  | _, _, [] => isTrue trivial
  | e, p, w :: l => by unfold RI; exact @instDecidableAnd _ _ _ (decRI f _ _ l)
def TR (f : Int) (l : List S46) : Prop := RI f 0 (-1) l ∧ 1 ≤ f ∧ f ≤ 240
instance (f : Int) (l : List S46) : Decidable (TR f l) := by unfold TR; infer_instance
def inw (w : S46) (t : Int) : Prop := w.f1 ≤ t ∧ t < w.f1 + w.f2
instance (w : S46) (t : Int) : Decidable (inw w t) := by unfold inw; infer_instance
def who : List S46 → Int → Int
  | [], _ => -1
  | w :: l, t => if inw w t then w.f0 else who l t
def whoL : List S46 → Int → Int → Int
  | [], _, a => a
  | w :: l, t, a => whoL l t (if inw w t then w.f0 else a)
def eo : Int → List S46 → Int
  | e, [] => e
  | _, w :: l => eo (w.f1 + w.f2) l
def po : Int → List S46 → Int
  | p, [] => p
  | _, w :: l => po w.f0 l
def sumL : List S46 → Int
  | [] => 0
  | w :: l => w.f2 + sumL l
theorem RI_snoc (f : Int) : ∀ (e p : Int) (us : List S46) (w : S46), RI f e p (us ++ [w]) ↔ RI f e p us ∧ okw f (eo e us) (po p us) w
  | e, p, [], w => by simp [RI, eo, po]
  | e, p, u :: us, w => by
    show okw f e p u ∧ RI f _ _ (us ++ [w]) ↔ (okw f e p u ∧ RI f _ _ us) ∧ okw f (eo _ us) (po _ us) w
    rw [RI_snoc f _ _ us w, and_assoc]
theorem whoL_snoc : ∀ (us : List S46) (w : S46) (t a : Int), whoL (us ++ [w]) t a = if inw w t then w.f0 else whoL us t a
  | [], w, t, a => rfl
  | u :: us, w, t, a => whoL_snoc us w t _
theorem eo_snoc : ∀ (e : Int) (us : List S46) (w : S46), eo e (us ++ [w]) = w.f1 + w.f2
  | e, [], w => rfl
  | e, u :: us, w => eo_snoc _ us w
theorem po_snoc : ∀ (p : Int) (us : List S46) (w : S46), po p (us ++ [w]) = w.f0
  | p, [], w => rfl
  | p, u :: us, w => po_snoc _ us w
theorem sumL_snoc : ∀ (us : List S46) (w : S46), sumL (us ++ [w]) = sumL us + w.f2
  | [], w => by simp [sumL]
  | u :: us, w => by show u.f2 + sumL (us ++ [w]) = _; rw [sumL_snoc us w]; simp [sumL]; omega
theorem whoL_old {f : Int} : ∀ {e p : Int} {l : List S46} (h : RI f e p l) (t a : Int), t < e → whoL l t a = a
  | _, _, [], _, _, _, _ => rfl
  | e, p, w :: l, h, t, a, ht => by
    obtain ⟨h1, h2⟩ := h
    unfold okw at h1
    show whoL l t (if inw w t then w.f0 else a) = a
    rw [whoL_old h2 t _ (by omega), if_neg (by unfold inw; omega)]
theorem who_old {f : Int} : ∀ {e p : Int} {l : List S46} (h : RI f e p l) (t : Int), t < e → who l t = -1
  | _, _, [], _, _, _ => rfl
  | e, p, w :: l, h, t, ht => by
    obtain ⟨h1, h2⟩ := h
    unfold okw at h1
    show (if inw w t then w.f0 else who l t) = -1
    rw [if_neg (by unfold inw; omega), who_old h2 t (by omega)]
theorem whoL_who {f : Int} : ∀ {e p : Int} {l : List S46} (h : RI f e p l) (t : Int), whoL l t (-1) = who l t
  | _, _, [], _, _ => rfl
  | e, p, w :: l, h, t => by
    obtain ⟨h1, h2⟩ := h
    show whoL l t (if inw w t then w.f0 else -1) = (if inw w t then w.f0 else who l t)
    by_cases c : inw w t
    · rw [if_pos c, if_pos c]; exact whoL_old h2 t _ c.2
    · rw [if_neg c, if_neg c]; exact whoL_who h2 t
theorem who_ge {f : Int} : ∀ {e p : Int} {l : List S46} (h : RI f e p l) (t : Int), -1 ≤ who l t ∧ who l t ≤ 3
  | _, _, [], _, _ => by simp [who]
  | e, p, w :: l, h, t => by
    obtain ⟨h1, h2⟩ := h
    unfold okw at h1
    show -1 ≤ (if inw w t then w.f0 else who l t) ∧ (if inw w t then w.f0 else who l t) ≤ 3
    by_cases c : inw w t
    · rw [if_pos c]; omega
    · rw [if_neg c]; exact who_ge h2 t
theorem who_far {f : Int} : ∀ {e p : Int} {l : List S46} (h : RI f e p l) (t : Int), f ≤ t → who l t = -1
  | _, _, [], _, _, _ => rfl
  | e, p, w :: l, h, t, ht => by
    obtain ⟨h1, h2⟩ := h
    unfold okw at h1
    show (if inw w t then w.f0 else who l t) = -1
    rw [if_neg (by unfold inw; omega), who_far h2 t ht]
/-- A table is told by its ticks. -/
theorem unique {f : Int} : ∀ {e p : Int} {l m : List S46}, RI f e p l → RI f e p m → (∀ t, who l t = who m t) → l = m
  | _, _, [], [], _, _, _ => rfl
  | _, _, [], w :: m, _, h, k => by
    obtain ⟨h1, h2⟩ := h
    unfold okw at h1
    have := k w.f1
    rw [who, who, if_pos (by unfold inw; omega)] at this
    omega
  | _, _, w :: l, [], h, _, k => by
    obtain ⟨h1, h2⟩ := h
    unfold okw at h1
    have := k w.f1
    rw [who, who, if_pos (by unfold inw; omega)] at this
    omega
  | e, p, w :: l, v :: m, h, h', k => by
    obtain ⟨h1, h2⟩ := h
    obtain ⟨g1, g2⟩ := h'
    unfold okw at h1 g1
    have a1 : w.f1 = v.f1 := by
      rcases Int.lt_trichotomy w.f1 v.f1 with c | c | c
      · have := k w.f1
        rw [who, who, if_pos (by unfold inw; omega), if_neg (by unfold inw; omega), who_old g2 _ (by omega)] at this
        omega
      · exact c
      · have := k v.f1
        rw [who, who, if_neg (by unfold inw; omega), if_pos (by unfold inw; omega), who_old h2 _ (by omega)] at this
        omega
    have a0 : w.f0 = v.f0 := by
      have := k w.f1
      rw [who, who, if_pos (by unfold inw; omega), if_pos (by unfold inw; omega)] at this
      exact this
    have next : ∀ {f e p : Int} {l : List S46}, RI f e p l → who l e ≠ p ∨ p = -1 := by
      intro f e p l h
      match l, h with
      | [], h => rw [who]; omega
      | u :: l, h =>
        obtain ⟨q1, q2⟩ := h
        unfold okw at q1
        rw [who]
        by_cases c : inw u e
        · rw [if_pos c]; unfold inw at c; left; intro hh; exact q1.2.2.2.2.2.2.2 ⟨by omega, hh⟩
        · rw [if_neg c, who_old q2 _ (by omega)]; omega
    have a2 : w.f2 = v.f2 := by
      rcases Int.lt_trichotomy w.f2 v.f2 with c | c | c
      · have := k (w.f1 + w.f2)
        rw [who, who, if_neg (by unfold inw; omega), if_pos (by unfold inw; omega)] at this
        rcases next h2 with q | q <;> omega
      · exact c
      · have := k (v.f1 + v.f2)
        rw [who, who, if_pos (by unfold inw; omega), if_neg (by unfold inw; omega)] at this
        rcases next g2 with q | q <;> omega
    have e1 : w = v := by cases w; cases v; simp only [S46.mk.injEq]; exact ⟨a0, a1, a2⟩
    subst e1
    rw [unique h2 g2 (fun t => by
      have := k t
      rw [who, who] at this
      by_cases c : inw w t
      · rw [who_old h2 t c.2, who_old g2 t c.2]
      · rw [if_neg c, if_neg c] at this; exact this)]

/-! ### The program: Right, At, Ticks -/
theorem drop_cons (l : List S46) (i : Nat) (hi : i < l.length) : l.drop i = rd_T46 l (i : Int) :: l.drop (i + 1) := by
  rw [List.drop_eq_getElem_cons hi]
  congr 1
  unfold rd_T46
  rw [Int.toNat_natCast, List.getD_eq_getElem?_getD, List.getElem?_eq_getElem hi]; rfl
theorem may_ev (w : S46) (f : Int) (hf : -9223372036854775808 ≤ f ∧ f ≤ 9223372036854775807) : table_may.f w.f0 w.f1 w.f2 f = some (decide (0 ≤ w.f0 ∧ w.f0 < 4 ∧ 0 ≤ w.f1 ∧ w.f1 < f ∧ 1 ≤ w.f2 ∧ w.f2 ≤ f - w.f1)) := by
  unfold table_may.f
  by_cases c1 : w.f0 ≥ 0
  · rw [if_pos c1]
    by_cases c2 : w.f0 < 4
    · rw [if_pos c2]
      by_cases c3 : w.f1 ≥ 0
      · rw [if_pos c3]
        by_cases c4 : w.f1 < f
        · rw [if_pos c4, w64 (by omega) (by omega)]
          by_cases c5 : w.f2 ≥ 1
          · rw [if_pos c5]; congr 1; apply decide_eq_decide.2; omega
          · rw [if_neg c5, decide_eq_false (by omega)]
        · rw [if_neg c4, decide_eq_false (by omega)]
      · rw [if_neg c3, decide_eq_false (by omega)]
    · rw [if_neg c2, decide_eq_false (by omega)]
  · rw [if_neg c1, decide_eq_false (by omega)]
theorem right_l (f : Int) (hf : -9223372036854775808 ≤ f ∧ f ≤ 9223372036854775807) (l : List S46) (hl : l.length < 1000000) : ∀ n (i : Nat) (e p : Int), l.length = i + n → ∀ k, n + 1 ≤ k → table_Right.l0 k e p l l.length i f l = some (decide (RI f e p (l.drop i) ∧ 1 ≤ f ∧ f ≤ 240))
  | 0, i, e, p, hn, k, hk => by
    obtain ⟨k, rfl⟩ : ∃ k', k = k' + 1 := ⟨k - 1, by omega⟩
    rw [table_Right.l0, if_neg (by omega), List.drop_of_length_le (by omega)]
    by_cases c : f ≥ 1
    · rw [if_pos c]; congr 1; apply decide_eq_decide.2; simp only [RI, true_and]; omega
    · rw [if_neg c, decide_eq_false (by omega)]
  | n + 1, i, e, p, hn, k, hk => by
    obtain ⟨k, rfl⟩ : ∃ k', k = k' + 1 := ⟨k - 1, by omega⟩
    have hw := drop_cons l i (by omega)
    rw [table_Right.l0, if_pos (by omega), if_pos (by omega), if_pos (by omega), may_ev _ f hf, Option.bind_some, hw]
    obtain ⟨w, ew⟩ : ∃ w, w = rd_T46 l (i : Int) := ⟨_, rfl⟩
    rw [← ew]
    have no : ¬ okw f e p w → decide (RI f e p (w :: l.drop (i + 1)) ∧ 1 ≤ f ∧ f ≤ 240) = false := fun h => decide_eq_false (fun q => h q.1.1)
    by_cases c1 : 0 ≤ w.f0 ∧ w.f0 < 4 ∧ 0 ≤ w.f1 ∧ w.f1 < f ∧ 1 ≤ w.f2 ∧ w.f2 ≤ f - w.f1
    · rw [decide_eq_true c1, if_pos rfl]
      by_cases c2 : w.f1 < e
      · rw [if_pos c2, no (by unfold okw; omega)]
      · rw [if_neg c2]
        have go : ¬ (w.f1 = e ∧ w.f0 = p) → table_Right.l0 k (wrap64 (w.f1 + w.f2)) w.f0 l l.length (wrap64 ((i : Int) + 1)) f l = some (decide (RI f e p (w :: l.drop (i + 1)) ∧ 1 ≤ f ∧ f ≤ 240)) := by
          intro c
          rw [w64 (n := w.f1 + w.f2) (by omega) (by omega), w64 (n := (i : Int) + 1) (by omega) (by omega)]
          have := right_l f hf l hl n (i + 1) (w.f1 + w.f2) w.f0 (by omega) k (by omega)
          rw [show ((i : Int) + 1) = ((i + 1 : Nat) : Int) from rfl, this]
          congr 1; apply decide_eq_decide.2
          show _ ↔ (okw f e p w ∧ _) ∧ _
          have : okw f e p w := by unfold okw; omega
          simp only [this, true_and]
        by_cases c3 : w.f1 = e
        · rw [if_pos c3]
          by_cases c4 : w.f0 = p
          · rw [if_pos c4, no (by unfold okw; omega)]
          · rw [if_neg c4]; exact go (by omega)
        · rw [if_neg c3]; exact go (by omega)
    · rw [decide_eq_false c1, if_neg (by decide), no (by unfold okw; omega)]
theorem Right_ev (f : Int) (hf : -9223372036854775808 ≤ f ∧ f ≤ 9223372036854775807) (l : List S46) (hl : l.length < 1000000) (k : Nat) (hk : l.length + 1 ≤ k) : table_Right.f k f l = some (decide (TR f l)) := by
  have := right_l f hf l hl l.length 0 0 (-1) (by omega) k hk
  rw [List.drop_zero] at this
  exact this
theorem at_l (f : Int) (t : Int) (l : List S46) (hl : l.length < 1000000) (hf : f ≤ 240) : ∀ n (i : Nat) (e p : Int), l.length = i + n → RI f e p (l.drop i) → ∀ k, n + 1 ≤ k → table_At.l0 k t l l.length i = some (who (l.drop i) t)
  | 0, i, e, p, hn, h, k, hk => by
    obtain ⟨k, rfl⟩ : ∃ k', k = k' + 1 := ⟨k - 1, by omega⟩
    rw [table_At.l0, if_neg (by omega), List.drop_of_length_le (by omega)]; rfl
  | n + 1, i, e, p, hn, h, k, hk => by
    obtain ⟨k, rfl⟩ : ∃ k', k = k' + 1 := ⟨k - 1, by omega⟩
    have hw := drop_cons l i (by omega)
    rw [hw] at h ⊢
    obtain ⟨h1, h2⟩ := h
    unfold okw at h1
    have ih := at_l f t l hl hf n (i + 1) _ _ (by omega) h2 k (by omega)
    rw [table_At.l0, if_pos (by omega), if_pos (by omega), if_pos (by omega), w64 (n := (rd_T46 l (i : Int)).f1 + _) (by omega) (by omega), w64 (n := (i : Int) + 1) (by omega) (by omega), who]
    by_cases c : inw (rd_T46 l (i : Int)) t
    · rw [if_pos c.1, if_pos c.2, if_pos c]
    · rw [if_neg c]
      unfold inw at c
      by_cases c1 : t ≥ (rd_T46 l (i : Int)).f1
      · rw [if_pos c1, if_neg (by omega)]; exact ih
      · rw [if_neg c1]; exact ih
theorem At_ev (f : Int) (hf : -9223372036854775808 ≤ f ∧ f ≤ 9223372036854775807) (l : List S46) (hl : l.length < 1000000) (t : Int) (k : Nat) (hk : l.length + 3 ≤ k) : table_At.f k f l t = some (if TR f l ∧ 0 ≤ t then who l (Int.tmod t f) else -1) := by
  unfold table_At.f
  rw [Right_ev f hf l hl k (by omega), Option.bind_some]
  obtain ⟨k, rfl⟩ : ∃ k', k = k' + 1 := ⟨k - 1, by omega⟩
  by_cases c : TR f l
  · rw [decide_eq_true c, if_pos rfl, table_At.j0]
    by_cases c1 : t < 0
    · rw [decide_eq_true c1, if_pos rfl, if_neg (by omega)]
    · rw [decide_eq_false c1, if_neg (by decide), if_neg (by have := c.2; omega), if_pos ⟨c, by omega⟩]
      have := at_l f (Int.tmod t f) l hl c.2.2 l.length 0 0 (-1) (by omega) (by rw [List.drop_zero]; exact c.1) k (by omega)
      rw [List.drop_zero] at this
      exact this
  · rw [decide_eq_false c, if_neg (by decide), table_At.j0, if_pos rfl, if_neg (fun h => c h.1)]
/-- Ticks that a rule tells. -/
def tk (n : Nat) (g : Int → Int) : List Int := (List.range n).map fun t : Nat => g (t : Int)
theorem tk_len (n : Nat) (g : Int → Int) : (tk n g).length = n := by simp [tk]
theorem tk_rd (n : Nat) (g : Int → Int) (t : Int) (h0 : 0 ≤ t) (h1 : t < n) : rd (tk n g) t = g t := by
  obtain ⟨m, rfl⟩ : ∃ m : Nat, t = m := ⟨t.toNat, by omega⟩
  show (tk n g).getD (m : Int).toNat 0 = _
  rw [Int.toNat_natCast, List.getD_eq_getElem?_getD, List.getElem?_eq_getElem (by rw [tk_len]; omega)]
  simp [tk]
theorem tk_ext (n : Nat) (g h : Int → Int) (k : ∀ t, 0 ≤ t → t < (n : Int) → g t = h t) : tk n g = tk n h := by
  unfold tk
  apply List.map_congr_left
  intro t ht
  rw [List.mem_range] at ht
  exact k t (by omega) (by omega)
theorem tk_set (n : Nat) (g : Int → Int) (p : Nat) (v : Int) (hp : p < n) : (tk n g).set p v = tk n (fun t => if t = (p : Int) then v else g t) := by
  apply List.ext_getElem
  · simp [tk]
  · intro j h1 h2
    rw [List.getElem_set]
    simp only [tk, List.getElem_map, List.getElem_range]
    by_cases c : p = j
    · subst c; simp
    · rw [if_neg c, if_neg (by omega)]
theorem ticks_l2 (l : List S46) (n : Nat) (i : Nat) (w : S46) (hw : 0 ≤ w.f1 ∧ w.f1 + w.f2 ≤ n ∧ n < 1000000 ∧ 0 ≤ w.f2) {F : Nat} {r : List Int × Int} : ∀ m (j : Nat) (g : Int → Int), w.f2.toNat = j + m →
    (∀ k, F ≤ k → table_Ticks.l1 k (tk n (fun t => if inw w t then w.f0 else g t)) l l.length (wrap64 ((i : Int) + 1)) = some r) →
    ∀ k, F + m + 1 ≤ k → table_Ticks.l2 k (tk n (fun t => if w.f1 ≤ t ∧ t < w.f1 + j then w.f0 else g t)) l l.length i w.f2 j w.f0 w.f1 w.f2 = some r
  | 0, j, g, hm, H, k, hk => by
    obtain ⟨k, rfl⟩ : ∃ k', k = k' + 1 := ⟨k - 1, by omega⟩
    rw [table_Ticks.l2, if_neg (by omega)]
    rw [show (j : Int) = w.f2 by omega]
    exact H k (by omega)
  | m + 1, j, g, hm, H, k, hk => by
    obtain ⟨k, rfl⟩ : ∃ k', k = k' + 1 := ⟨k - 1, by omega⟩
    rw [table_Ticks.l2, if_pos (by omega), w64 (n := w.f1 + (j : Int)) (by omega) (by omega), if_pos (by omega), if_pos (by rw [tk_len]; omega), w64 (n := (j : Int) + 1) (by omega) (by omega), tk_set _ _ _ _ (by omega)]
    have ih := ticks_l2 l n i w hw m (j + 1) g (by omega) H k (by omega)
    refine Eq.trans ?_ ih
    congr 1
    apply tk_ext
    intro t h0 h1
    by_cases c : t = ((w.f1 + (j : Int)).toNat : Int)
    · rw [if_pos c, if_pos (by omega)]
    · rw [if_neg c]
      by_cases c2 : w.f1 ≤ t ∧ t < w.f1 + (j : Int)
      · rw [if_pos c2, if_pos (by omega)]
      · rw [if_neg c2, if_neg (by omega)]
theorem ticks_l1 (B : Nat) (hB : 245 ≤ B) (f : Int) (l : List S46) (hl : l.length < 1000000) (hf : f ≤ 240) : ∀ n (i : Nat) (e p : Int) (g : Int → Int), l.length = i + n → RI f e p (l.drop i) → ∀ k, n * B + 1 ≤ k → table_Ticks.l1 k (tk f.toNat g) l l.length i = some (tk f.toNat (fun t => whoL (l.drop i) t (g t)), 0)
  | 0, i, e, p, g, hn, h, k, hk => by
    obtain ⟨k, rfl⟩ : ∃ k', k = k' + 1 := ⟨k - 1, by omega⟩
    rw [table_Ticks.l1, if_neg (by omega), List.drop_of_length_le (by omega)]; rfl
  | n + 1, i, e, p, g, hn, h, k, hk => by
    obtain ⟨k, rfl⟩ : ∃ k', k = k' + 1 := ⟨k - 1, by omega⟩
    have hw := drop_cons l i (by omega)
    rw [hw] at h ⊢
    obtain ⟨h1, h2⟩ := h
    unfold okw at h1
    rw [Nat.succ_mul] at hk
    have ih := fun (g' : Int → Int) (k : Nat) (hk : n * B + 1 ≤ k) => ticks_l1 B hB f l hl hf n (i + 1) _ _ g' (by omega) h2 k hk
    rw [table_Ticks.l1, if_pos (by omega), if_pos (by omega), if_pos (by omega)]
    have := ticks_l2 l f.toNat i (rd_T46 l (i : Int)) (by omega) (F := n * B + 1) (r := (tk f.toNat (fun t => whoL (rd_T46 l (i : Int) :: l.drop (i + 1)) t (g t)), 0)) (rd_T46 l (i : Int)).f2.toNat 0 g (by omega) (fun k hk => by
      rw [w64 (by omega) (by omega)]; exact ih _ k hk) k (by omega)
    refine Eq.trans ?_ this
    congr 1
    apply tk_ext
    intro t _ _
    rw [if_neg (by omega)]
theorem ticks_l0 (f : Int) (l : List S46) (n : Nat) (hn : n < 1000000) {F : Nat} {r : List Int × Int} (H : ∀ k, F ≤ k → table_Ticks.l1 k (tk n (fun _ => -1)) l l.length 0 = some r) : ∀ m (j : Nat), n = j + m → ∀ k, F + m + 1 ≤ k → table_Ticks.l0 k (tk n (fun t => if t < j then -1 else 0)) n j f l = some r
  | 0, j, hm, k, hk => by
    obtain ⟨k, rfl⟩ : ∃ k', k = k' + 1 := ⟨k - 1, by omega⟩
    rw [table_Ticks.l0, if_neg (by omega), tk_ext n (fun t => if t < (j : Int) then -1 else 0) (fun _ => -1) (fun t _ h => if_pos (by omega))]
    exact H k (by omega)
  | m + 1, j, hm, k, hk => by
    obtain ⟨k, rfl⟩ : ∃ k', k = k' + 1 := ⟨k - 1, by omega⟩
    rw [table_Ticks.l0, if_pos (by omega), if_pos (by omega), if_pos (by rw [tk_len]; omega), w64 (by omega) (by omega), Int.toNat_natCast, tk_set _ _ _ _ (by omega)]
    have ih := ticks_l0 f l n hn H m (j + 1) (by omega) k (by omega)
    refine Eq.trans ?_ ih
    congr 1
    apply tk_ext
    intro t _ _
    by_cases c : t = (j : Int)
    · rw [if_pos c, if_pos (by omega)]
    · rw [if_neg c]
      by_cases c2 : t < (j : Int)
      · rw [if_pos c2, if_pos (by omega)]
      · rw [if_neg c2, if_neg (by omega)]
theorem Ticks_bad (f : Int) (hf : -9223372036854775808 ≤ f ∧ f ≤ 9223372036854775807) (l : List S46) (hl : l.length < 1000000) (h : ¬ TR f l) (k : Nat) (hk : l.length + 1 ≤ k) : table_Ticks.f k f l = some ([], 1) := by
  unfold table_Ticks.f
  rw [Right_ev f hf l hl k hk, Option.bind_some, decide_eq_false h, if_neg (by decide)]
theorem Ticks_ev (f : Int) (l : List S46) (hl : l.length < 1000000) (h : TR f l) (k : Nat) (hk : l.length * 245 + 245 ≤ k) : table_Ticks.f k f l = some (tk f.toNat (who l), 0) := by
  unfold table_Ticks.f
  have h2 := h.2
  obtain ⟨N, hN⟩ : ∃ N, l.length * 245 = N := ⟨_, rfl⟩
  have hNl : l.length ≤ N := by omega
  rw [hN] at hk
  rw [Right_ev f (by omega) l hl k (by omega), Option.bind_some, decide_eq_true h, if_pos rfl, if_pos (by omega), if_pos (by omega), Option.bind_some]
  have e0 : List.replicate f.toNat (0 : Int) = tk f.toNat (fun t => if t < ((0 : Nat) : Int) then -1 else 0) := by
    rw [tk_ext f.toNat (fun t => if t < ((0 : Nat) : Int) then -1 else 0) (fun _ => 0) (fun t h _ => if_neg (by omega))]
    simp [tk, List.map_const']
  rw [e0, tk_len]
  refine ticks_l0 f l f.toNat (by omega) (F := N + 1) ?_ f.toNat 0 (by omega) k (by omega)
  intro k hk
  rw [← hN] at hk
  have := ticks_l1 245 (by omega) f l hl h.2.2 l.length 0 0 (-1) (fun _ => -1) (by omega) (by rw [List.drop_zero]; exact h.1) k hk
  rw [List.drop_zero] at this
  refine this.trans ?_
  rw [tk_ext f.toNat _ (who l) (fun t _ _ => whoL_who h.1 t)]
theorem len_le {f : Int} : ∀ {e p : Int} {l : List S46}, 0 ≤ e → RI f e p l → e ≤ f → (l.length : Int) ≤ f - e
  | e, p, [], h0, _, h1 => by simp; omega
  | e, p, w :: l, h0, h, h1 => by
    obtain ⟨q1, q2⟩ := h
    unfold okw at q1
    have := len_le (by omega) q2 (by omega)
    simp only [List.length_cons]; omega

/-! ### The reference -/
theorem rat_l1 (f : Int) (l : List S46) (t : Int) (i : Nat) (hi : i < l.length) (hf : 1 ≤ f ∧ f ≤ 240) (hw : 0 ≤ (rd_T46 l (i : Int)).f1 ∧ (rd_T46 l (i : Int)).f1 + (rd_T46 l (i : Int)).f2 ≤ f ∧ 0 ≤ (rd_T46 l (i : Int)).f2) {F : Nat} {r : Int} : ∀ m (j : Nat) (a : Int), (rd_T46 l (i : Int)).f2.toNat = j + m →
    (∀ k, F ≤ k → remontoirref13_At.l0 k f l t (if (rd_T46 l (i : Int)).f1 + (j : Int) ≤ Int.tmod t f ∧ Int.tmod t f < (rd_T46 l (i : Int)).f1 + (rd_T46 l (i : Int)).f2 then (rd_T46 l (i : Int)).f0 else a) (wrap64 ((i : Int) + 1)) = some r) →
    ∀ k, F + m + 1 ≤ k → remontoirref13_At.l1 k f l t a i j = some r
  | 0, j, a, hm, H, k, hk => by
    obtain ⟨k, rfl⟩ : ∃ k', k = k' + 1 := ⟨k - 1, by omega⟩
    rw [remontoirref13_At.l1, if_pos (by omega), if_pos (by omega), if_neg (by omega)]
    have := H k (by omega)
    rw [if_neg (by omega)] at this
    exact this
  | m + 1, j, a, hm, H, k, hk => by
    obtain ⟨k, rfl⟩ : ∃ k', k = k' + 1 := ⟨k - 1, by omega⟩
    rw [remontoirref13_At.l1, if_pos (by omega), if_pos (by omega), if_pos (by omega), if_neg (by omega), w64 (n := _ + (j : Int)) (by omega) (by omega), w64 (n := (j : Int) + 1) (by omega) (by omega)]
    by_cases c : (rd_T46 l (i : Int)).f1 + (j : Int) = Int.tmod t f
    · rw [if_pos c]
      refine rat_l1 (F := F) f l t i hi hf hw m (j + 1) _ (by omega) (fun k hk => ?_) k (by omega)
      have := H k hk
      rw [if_pos (by omega)] at this
      rw [if_neg (by omega)]; exact this
    · rw [if_neg c]
      refine rat_l1 (F := F) f l t i hi hf hw m (j + 1) _ (by omega) (fun k hk => ?_) k (by omega)
      have := H k hk
      by_cases c2 : (rd_T46 l (i : Int)).f1 + (j : Int) ≤ Int.tmod t f ∧ Int.tmod t f < (rd_T46 l (i : Int)).f1 + (rd_T46 l (i : Int)).f2
      · rw [if_pos c2] at this; rw [if_pos (by omega)]; exact this
      · rw [if_neg c2] at this; rw [if_neg (by omega)]; exact this
theorem rat_l0 (B : Nat) (hB : 245 ≤ B) (f : Int) (l : List S46) (hl : l.length < 1000000) (t : Int) (hf : 1 ≤ f ∧ f ≤ 240) : ∀ n (i : Nat) (e p a : Int), l.length = i + n → RI f e p (l.drop i) → ∀ k, n * B + 1 ≤ k → remontoirref13_At.l0 k f l t a i = some (whoL (l.drop i) (Int.tmod t f) a)
  | 0, i, e, p, a, hn, h, k, hk => by
    obtain ⟨k, rfl⟩ : ∃ k', k = k' + 1 := ⟨k - 1, by omega⟩
    rw [remontoirref13_At.l0, if_neg (by omega), List.drop_of_length_le (by omega)]; rfl
  | n + 1, i, e, p, a, hn, h, k, hk => by
    obtain ⟨k, rfl⟩ : ∃ k', k = k' + 1 := ⟨k - 1, by omega⟩
    have hw := drop_cons l i (by omega)
    rw [hw] at h ⊢
    obtain ⟨h1, h2⟩ := h
    unfold okw at h1
    rw [remontoirref13_At.l0, if_pos (by omega)]
    rw [Nat.succ_mul] at hk
    refine rat_l1 f l t i (by omega) hf (by omega) (F := n * B + 1) (rd_T46 l (i : Int)).f2.toNat 0 a (by omega) (fun k hk => ?_) k (by omega)
    rw [w64 (by omega) (by omega)]
    have := rat_l0 B hB f l hl t hf n (i + 1) _ _ (if inw (rd_T46 l (i : Int)) (Int.tmod t f) then (rd_T46 l (i : Int)).f0 else a) (by omega) h2 k hk
    refine Eq.trans ?_ this
    congr 1
    unfold inw
    rw [show ((0 : Nat) : Int) = 0 from rfl, Int.add_zero]
theorem RAt_ev (f : Int) (l : List S46) (hl : l.length < 1000000) (t : Int) (h : TR f l) (k : Nat) (hk : l.length * 245 + 1 ≤ k) : remontoirref13_At.f k f l t = some (who l (Int.tmod t f)) := by
  have := rat_l0 245 (by omega) f l hl t h.2 l.length 0 0 (-1) (-1) (by omega) (by rw [List.drop_zero]; exact h.1) k hk
  rw [List.drop_zero, whoL_who h.1] at this
  exact this
theorem tk_succ (n : Nat) (g : Int → Int) : tk (n + 1) g = tk n g ++ [g n] := by simp [tk, List.range_succ]
theorem rticks_l (f : Int) (l : List S46) (hl : l.length < 1000000) (h : TR f l) (N : Nat) (hN : l.length * 245 = N) : ∀ n (j : Nat), f.toNat = j + n → ∀ k, N + 2 + n ≤ k → remontoirref13_Ticks.l0 k f l (tk j (who l)) j = some (tk f.toNat (who l))
  | 0, j, hn, k, hk => by
    obtain ⟨k, rfl⟩ : ∃ k', k = k' + 1 := ⟨k - 1, by omega⟩
    have h2 := h.2
    rw [remontoirref13_Ticks.l0, if_neg (by omega), show f.toNat = j by omega]
  | n + 1, j, hn, k, hk => by
    obtain ⟨k, rfl⟩ : ∃ k', k = k' + 1 := ⟨k - 1, by omega⟩
    have h2 := h.2
    rw [remontoirref13_Ticks.l0, if_pos (by omega), RAt_ev f l hl _ h k (by rw [hN]; omega), Option.bind_some, if_pos (by rw [tk_len]; omega), w64 (by omega) (by omega)]
    have := rticks_l f l hl h N hN n (j + 1) (by omega) k (by omega)
    rw [tk_succ] at this
    rw [Int.tmod_eq_emod_of_nonneg (by omega), Int.emod_eq_of_lt (by omega) (by omega)]
    exact this
theorem RTicks_ev (f : Int) (l : List S46) (hl : l.length < 1000000) (h : TR f l) (k : Nat) (hk : l.length * 245 + 300 ≤ k) : remontoirref13_Ticks.f k f l = some (tk f.toNat (who l)) := by
  obtain ⟨N, hN⟩ : ∃ N, l.length * 245 = N := ⟨_, rfl⟩
  rw [hN] at hk
  have h2 := h.2
  exact rticks_l f l hl h N hN f.toNat 0 (by omega) k (by omega)
theorem same_l : ∀ n (x : List Int) (i : Nat), x.length = i + n → x.length < 100000 → ∀ k, n + 1 ≤ k → remontoirref05_SameInts.l0 k x x i = some true
  | 0, x, i, hn, hl, k, hk => by
    obtain ⟨k, rfl⟩ : ∃ k', k = k' + 1 := ⟨k - 1, by omega⟩
    rw [remontoirref05_SameInts.l0, if_neg (by omega)]
  | n + 1, x, i, hn, hl, k, hk => by
    obtain ⟨k, rfl⟩ : ∃ k', k = k' + 1 := ⟨k - 1, by omega⟩
    rw [remontoirref05_SameInts.l0, if_pos (by omega), if_pos (by omega), if_pos (by omega), if_pos rfl, w64 (by omega) (by omega)]
    exact same_l n x (i + 1) (by omega) hl k (by omega)
theorem SameInts_ev (x y : List Int) (e : x = y) (hl : x.length < 100000) (k : Nat) (hk : x.length + 1 ≤ k) : remontoirref05_SameInts.f k x y = some true := by
  subst e
  unfold remontoirref05_SameInts.f
  rw [if_pos rfl]; exact same_l x.length x 0 (by omega) hl k hk
end Go.Proofs.Ytkfkghnmbemdiaa.SynTab
