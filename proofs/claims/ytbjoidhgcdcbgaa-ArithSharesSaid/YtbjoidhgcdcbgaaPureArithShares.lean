/- The statement ArithShares: what divides both numbers, and what both divide, is what the document says, or the error is told. No condition. -/
import Derived.Test.YtbjoidhgcdcbgaaFArithLem
namespace Go.Proofs.Ytbjoidhgcdcbgaa.Pure
set_option linter.unusedSimpArgs false
set_option linter.unusedVariables false
open Go.RowKit Go.Proofs.Ytbjoidhgcdcbgaa.FArith Go.Proofs.YtbjoidhgcdcbgaaW.PrintWords Go.Proofs.YtbjoidhgcdcbgaaW.PrintLast Go.Proofs.Ytbjoidhgcdcbgaa.ArithLem

theorem ArithShares : remontoirlaw01_ArithShares.Pure := by
  intro a b _ _
  obtain ⟨K, hK⟩ := knows_ev
  obtain ⟨K1, h1⟩ := gcd_ev a b
  obtain ⟨K2, h2⟩ := lcm_ev a b
  by_cases h : Ok a ∧ Ok b ∧ 0 ≤ a ∧ 0 ≤ b
  · by_cases hp : 1 ≤ a ∧ 1 ≤ b
    · obtain ⟨K3, h3⟩ := rlcm_ev a b hp.1 hp.2 h.1 h.2.1
      refine ⟨K + K1 + K2 + K3 + b.toNat + 9, ?_⟩
      unfold remontoirlaw01_ArithShares.f
      rw [h1 _ (by omega), h2 _ (by omega), may_both, if_pos h, if_pos ⟨hp.1, hp.2, h.1, h.2.1⟩, decide_eq_true (show Ok a ∧ Ok b from ⟨h.1, h.2.1⟩)]
      have hrest : ∀ l f, (if Ok (L a b) then some (L a b, 0) else some (0, 5)) = some (l, f) → remontoirlaw01_ArithShares.j0 (K + K1 + K2 + K3 + b.toNat + 9) a b (G a b) 0 l f false = some true := by
        intro l f hl
        rw [remontoirlaw01_ArithShares.j0, if_neg (by simp), rgcd_ev b.toNat a b (by omega) (by omega) (by omega) _ (by omega), Option.bind_some, if_pos rfl, remontoirlaw01_ArithShares.j1, if_neg (by simp), if_neg (show ¬ a < 1 by omega), remontoirlaw01_ArithShares.j2, if_neg (by simp; omega), h3 _ (by omega), hK _ (by omega)]
        by_cases hL : Ok (L a b)
        · rw [if_pos hL] at hl ⊢
          obtain ⟨rfl, rfl⟩ : L a b = l ∧ 0 = f := by simpa using hl
          simp [told_ok]
        · rw [if_neg hL] at hl ⊢
          obtain ⟨rfl, rfl⟩ : 0 = l ∧ 5 = f := by simpa using hl
          simp [told_no]
      by_cases hL : Ok (L a b)
      · rw [if_pos hL] at hrest ⊢
        simp only [Option.bind_some, if_true]
        rw [if_neg (by omega), decide_eq_false (by omega)]
        exact hrest _ _ rfl
      · rw [if_neg hL] at hrest ⊢
        simp only [Option.bind_some, if_true]
        rw [if_neg (by omega), decide_eq_false (by omega)]
        exact hrest _ _ rfl
    · refine ⟨K + K1 + K2 + b.toNat + 9, ?_⟩
      unfold remontoirlaw01_ArithShares.f
      rw [h1 _ (by omega), h2 _ (by omega), may_both, if_pos h, if_neg (fun h' => hp ⟨h'.1, h'.2.1⟩), decide_eq_true (show Ok a ∧ Ok b from ⟨h.1, h.2.1⟩)]
      simp only [Option.bind_some, if_true]
      rw [if_neg (by omega), decide_eq_false (by omega), remontoirlaw01_ArithShares.j0, if_neg (by simp), rgcd_ev b.toNat a b (by omega) (by omega) (by omega) _ (by omega), Option.bind_some, if_pos rfl, remontoirlaw01_ArithShares.j1, if_neg (by simp)]
      have hj : ∀ x, x = true → remontoirlaw01_ArithShares.j2 (K + K1 + K2 + b.toNat + 7) a b 0 1 x = some true := by
        intro x hx
        rw [remontoirlaw01_ArithShares.j2, if_pos hx, if_pos rfl, if_pos rfl, hK _ (by omega)]
        rfl
      by_cases ha : a < 1
      · rw [if_pos ha]
        exact hj _ rfl
      · rw [if_neg ha]
        exact hj _ (decide_eq_true (by omega))
  · refine ⟨K + K1 + K2 + 9, ?_⟩
    unfold remontoirlaw01_ArithShares.f
    rw [h1 _ (by omega), h2 _ (by omega), may_both, if_neg h, if_neg (fun h' => h ⟨h'.2.2.1, h'.2.2.2, by omega, by omega⟩)]
    repeat rw [Option.bind_some]
    have hj : ∀ x, x = true → remontoirlaw01_ArithShares.j0 (K + K1 + K2 + 9) a b 0 1 0 1 x = some true := by
      intro x hx
      rw [remontoirlaw01_ArithShares.j0, if_pos hx, if_pos rfl, if_pos rfl, if_pos rfl, if_pos rfl, hK _ (by omega)]
      rfl
    by_cases hm : Ok a ∧ Ok b
    · rw [if_pos (by simpa using hm)]
      by_cases ha : a < 0
      · rw [if_pos ha]
        exact hj _ rfl
      · rw [if_neg ha]
        refine hj _ (decide_eq_true ?_)
        apply Classical.byContradiction
        intro hb
        exact h ⟨hm.1, hm.2, by omega, by omega⟩
    · rw [if_neg (by simpa using hm)]
      exact hj _ rfl

end Go.Proofs.Ytbjoidhgcdcbgaa.Pure
