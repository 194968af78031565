/- The statement SupplyMore: an interface with a tick more gives not less; one that gives all gives all. No condition. -/
import Derived.Test.YtbjoidhgcdcbgaaFSupplyLem
namespace Go.Proofs.Ytbjoidhgcdcbgaa.Pure
open Go.RowKit Go.Proofs.Ytbjoidhgcdcbgaa.FSupply Go.Proofs.YtbjoidhgcdcbgaaW.PrintWords Go.Proofs.YtbjoidhgcdcbgaaW.PrintLast Go.Proofs.Ytbjoidhgcdcbgaa.SupplyMath Go.Proofs.Ytbjoidhgcdcbgaa.SupplyLem
set_option linter.unusedSimpArgs false
set_option linter.unusedVariables false

theorem SupplyMore : remontoirlaw09_SupplyMore.Pure := by
  intro P B t _ _ wt
  have ht := wf64 wt
  obtain ⟨K, hK⟩ := knows_ev
  refine ⟨K + 20, ?_⟩
  unfold remontoirlaw09_SupplyMore.f
  have hfar : remontoirlaw09_SupplyMore.j0 (K + 20) t true P B = some true := by
    rw [remontoirlaw09_SupplyMore.j0, if_pos rfl, hK _ (by omega)]; rfl
  rw [rright_ev, Option.bind_some]
  by_cases h : Rt P B
  · rw [if_pos (by simpa using h)]
    by_cases h0 : t < 0
    · rw [if_pos h0]; exact hfar
    · rw [if_neg h0]
      by_cases h1 : t > 4611686018427387903
      · rw [decide_eq_true h1]; exact hfar
      · rw [decide_eq_false h1, remontoirlaw09_SupplyMore.j0, if_neg (by simp)]
        have h' := h
        unfold Rt at h'
        have hknow : (remontoirlaw09_knows.f (K + 19)).bind (fun t => some t) = some true := by rw [hK _ (by omega)]; rfl
        rw [w64 (n := B + 1) (by omega) (by omega), bound_ev P B t _ (by omega), if_pos ⟨h, by omega, by omega⟩, Option.bind_some]
        by_cases hb : B + 1 > P
        · obtain rfl : B = P := by omega
          rw [if_pos hb, if_pos (SB_all h (by omega)), if_pos rfl, hknow]
        · have h2 : Rt P (B + 1) := by unfold Rt; omega
          rw [if_neg hb, bound_ev P (B + 1) t _ (by omega), if_pos ⟨h2, by omega, by omega⟩, Option.bind_some, if_pos rfl, if_pos rfl, if_pos (SB_more h h2 (by omega)), hknow]
  · rw [if_neg (by simpa using h)]; exact hfar

end Go.Proofs.Ytbjoidhgcdcbgaa.Pure
