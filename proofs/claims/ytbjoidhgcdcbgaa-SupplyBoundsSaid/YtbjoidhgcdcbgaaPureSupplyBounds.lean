/- The statement SupplyBounds: which interfaces are right, and their bounds, is what the document says, or the error is told. No condition. -/
import Derived.Test.YtbjoidhgcdcbgaaFSupplyLem
namespace Go.Proofs.Ytbjoidhgcdcbgaa.Pure
open Go.RowKit Go.Proofs.Ytbjoidhgcdcbgaa.FSupply Go.Proofs.YtbjoidhgcdcbgaaW.PrintWords Go.Proofs.YtbjoidhgcdcbgaaW.PrintLast Go.Proofs.Ytbjoidhgcdcbgaa.SupplyMath Go.Proofs.Ytbjoidhgcdcbgaa.SupplyLem
set_option linter.unusedSimpArgs false
set_option linter.unusedVariables false

theorem SupplyBounds : remontoirlaw09_SupplyBounds.Pure := by
  intro P B t _ _ wt
  have ht := wf64 wt
  obtain ⟨K, hK⟩ := knows_ev
  refine ⟨K + t.toNat + 20, ?_⟩
  unfold remontoirlaw09_SupplyBounds.f
  have hfar : remontoirlaw09_SupplyBounds.j0 (K + t.toNat + 20) t true P B = some true := by
    rw [remontoirlaw09_SupplyBounds.j0, if_pos rfl, hK _ (by omega)]; rfl
  have hnear : t ≤ 5000 ∨ t > 4611686018427387903 → remontoirlaw09_SupplyBounds.j0 (K + t.toNat + 20) t false P B = some true := by
    intro hn
    rw [remontoirlaw09_SupplyBounds.j0, if_neg (by simp), bound_ev P B t _ (by omega), right_ev, rright_ev]
    have hj : ∀ n e : Int, remontoirlaw09_SupplyBounds.j1 (K + t.toNat + 19) t 0 1 true P B = some true := by
      intro n e
      rw [remontoirlaw09_SupplyBounds.j1, if_pos rfl, if_pos rfl, if_pos rfl, hK _ (by omega)]; rfl
    by_cases h : Rt P B
    · rw [decide_eq_true h]
      by_cases h0 : t < 0
      · rw [if_neg (by omega)]
        repeat rw [Option.bind_some]
        rw [if_neg (by simp), if_pos rfl, if_pos h0]
        exact hj 0 0
      · by_cases h1 : t > 4611686018427387903
        · rw [if_neg (by omega)]
          repeat rw [Option.bind_some]
          rw [if_neg (by simp), if_pos rfl, if_neg h0, decide_eq_true h1]
          exact hj 0 0
        · rw [if_pos ⟨h, by omega, by omega⟩]
          repeat rw [Option.bind_some]
          rw [if_neg (by simp), if_pos rfl, if_neg h0, decide_eq_false h1, remontoirlaw09_SupplyBounds.j1, if_neg (by simp), rbound_ev P B t h (by omega) (by omega) _ (by omega), Option.bind_some, if_pos rfl, if_pos rfl, hK _ (by omega)]
          rfl
    · rw [if_neg (fun h' => h h'.1), decide_eq_false h]
      repeat rw [Option.bind_some]
      rw [if_neg (by simp), if_neg (by simp)]
      exact hj 0 0
  by_cases h5 : t > 5000
  · rw [if_pos h5]
    by_cases h6 : t ≤ 4611686018427387903
    · rw [decide_eq_true h6]; exact hfar
    · rw [decide_eq_false h6]; exact hnear (.inr (by omega))
  · rw [if_neg h5]; exact hnear (.inl (by omega))

end Go.Proofs.Ytbjoidhgcdcbgaa.Pure
