/- The statement SupplyRises: the bound rises by 0 or 1 with each tick, and by the budget with each period, from where it may first rise on; and is not more than the ticks. No condition. -/
import Derived.Test.YtbjoidhgcdcbgaaFSupplyLem
namespace Go.Proofs.Ytbjoidhgcdcbgaa.Pure
open Go.RowKit Go.Proofs.Ytbjoidhgcdcbgaa.FSupply Go.Proofs.YtbjoidhgcdcbgaaW.PrintWords Go.Proofs.YtbjoidhgcdcbgaaW.PrintLast Go.Proofs.Ytbjoidhgcdcbgaa.SupplyMath Go.Proofs.Ytbjoidhgcdcbgaa.SupplyLem
set_option linter.unusedSimpArgs false
set_option linter.unusedVariables false

theorem SupplyRises : remontoirlaw09_SupplyRises.Pure := by
  intro P B t _ _ wt
  have ht := wf64 wt
  obtain ⟨K, hK⟩ := knows_ev
  refine ⟨K + 20, ?_⟩
  unfold remontoirlaw09_SupplyRises.f
  have hfar : remontoirlaw09_SupplyRises.j0 (K + 20) t true P B = some true := by
    rw [remontoirlaw09_SupplyRises.j0, if_pos rfl, hK _ (by omega)]; rfl
  rw [rright_ev, Option.bind_some]
  by_cases h : Rt P B
  · rw [if_pos (by simpa using h)]
    by_cases h0 : t < 0
    · rw [if_pos h0]; exact hfar
    · rw [if_neg h0]
      by_cases h1 : t > 4611686018427387703
      · rw [decide_eq_true h1]; exact hfar
      · rw [decide_eq_false h1, remontoirlaw09_SupplyRises.j0, if_neg (by simp)]
        have h' := h
        unfold Rt at h'
        have hknow : (remontoirlaw09_knows.f (K + 19)).bind (fun t => some t) = some true := by rw [hK _ (by omega)]; rfl
        have ra := SB_range h (t := t) (by omega)
        have hnext := SB_next h (t := t) (by omega)
        have hzero : t = 0 → SB P B t = 0 := fun e => by rw [e]; exact SB_zero h
        have hper : ¬ t < P - B → SB P B (t + P) = SB P B t + B := fun e => SB_period h (by omega)
        rw [w64 (n := t + 1) (by omega) (by omega), w64 (n := t + P) (by omega) (by omega), w64 (n := P - B) (by omega) (by omega), bound_ev P B t _ (by omega), bound_ev P B (t + 1) _ (by omega), bound_ev P B (t + P) _ (by omega), if_pos ⟨h, by omega, by omega⟩, if_pos ⟨h, by omega, by omega⟩, if_pos ⟨h, by omega, by omega⟩]
        repeat rw [Option.bind_some]
        rw [if_pos rfl, if_pos rfl, if_pos rfl, if_neg (show ¬ SB P B t > t by omega)]
        have hw : wrap64 (SB P B t + B) = SB P B t + B := w64 (by omega) (by omega)
        have hw1 : wrap64 (SB P B t + 1) = SB P B t + 1 := w64 (by omega) (by omega)
        have hrest : (if t < P - B then (if t > 0 then (remontoirlaw09_knows.f (K + 19)).bind (fun t => some t) else if SB P B t = 0 then (remontoirlaw09_knows.f (K + 19)).bind (fun t => some t) else some false)
            else (if SB P B (t + P) = wrap64 (SB P B t + B) then (if t > 0 then (remontoirlaw09_knows.f (K + 19)).bind (fun t => some t) else if SB P B t = 0 then (remontoirlaw09_knows.f (K + 19)).bind (fun t => some t) else some false) else some false)) = some true := by
          have hin : (if t > 0 then (remontoirlaw09_knows.f (K + 19)).bind (fun t => some t) else if SB P B t = 0 then (remontoirlaw09_knows.f (K + 19)).bind (fun t => some t) else some false) = some true := by
            by_cases hp : t > 0
            · rw [if_pos hp, hknow]
            · rw [if_neg hp, if_pos (hzero (by omega)), hknow]
          by_cases hg : t < P - B
          · rw [if_pos hg, hin]
          · rw [if_neg hg, hw, if_pos (hper hg), hin]
        by_cases he : SB P B (t + 1) = SB P B t
        · rw [if_pos he]; exact hrest
        · rw [if_neg he, hw1, if_pos (by omega)]; exact hrest
  · rw [if_neg (by simpa using h)]; exact hfar

end Go.Proofs.Ytbjoidhgcdcbgaa.Pure
