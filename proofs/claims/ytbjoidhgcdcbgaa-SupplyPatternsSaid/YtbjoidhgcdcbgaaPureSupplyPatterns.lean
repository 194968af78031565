/- The statement SupplyPatterns: which patterns are legal, and what they give at least, is what the document says. No condition. -/
import Derived.Test.YtbjoidhgcdcbgaaFSupplyLem
namespace Go.Proofs.Ytbjoidhgcdcbgaa.Pure
open Go.RowKit Go.Proofs.Ytbjoidhgcdcbgaa.FSupply Go.Proofs.YtbjoidhgcdcbgaaW.PrintWords Go.Proofs.YtbjoidhgcdcbgaaW.PrintLast Go.Proofs.Ytbjoidhgcdcbgaa.SupplyMath Go.Proofs.Ytbjoidhgcdcbgaa.SupplyLem
set_option linter.unusedSimpArgs false
set_option linter.unusedVariables false

theorem SupplyPatterns : remontoirlaw09_SupplyPatterns.Pure := by
  intro P B l t _ _ gl wt
  have ht := wf64 wt
  obtain ⟨K, hK⟩ := knows_ev
  by_cases hl : (l.length : Int) > 600
  · refine ⟨K, ?_⟩
    unfold remontoirlaw09_SupplyPatterns.f
    rw [if_pos hl, hK _ (by omega)]; rfl
  · have h1 := rleast_ev l (by omega) t ht
    have hend : ∀ (k : Nat), K + 3000 ≤ k → ∀ q, supply_Least.f k l t = some q → remontoirref09_Least.f k l t = some q → remontoirlaw09_SupplyPatterns.f k P B l t = some true := by
      intro k hk q hq hq2
      unfold remontoirlaw09_SupplyPatterns.f
      rw [if_neg hl, legal_ev P B l (by omega) _ (by omega), rlegal_ev P B l (by omega) _ (by omega), Option.bind_some, Option.bind_some, if_pos (by simp), hq, hq2, Option.bind_some, Option.bind_some, if_pos rfl, hK _ (by omega)]
      rfl
    by_cases h : 1 ≤ t ∧ t ≤ l.length
    · rw [if_pos h] at h1
      obtain ⟨r, K1, hr, hm⟩ := h1
      have h2 := least_ev l (by omega) t (K + K1 + 3000) (by omega)
      rw [if_pos h] at h2
      obtain ⟨q, hq, hm2⟩ := h2
      have := hm.same hm2
      subst this
      exact ⟨_, hend _ (by omega) _ hq (hr _ (by omega))⟩
    · rw [if_neg h] at h1
      obtain ⟨K1, hr⟩ := h1
      have h2 := least_ev l (by omega) t (K + K1 + 3000) (by omega)
      rw [if_neg h] at h2
      exact ⟨_, hend _ (by omega) _ h2 (hr _ (by omega))⟩

end Go.Proofs.Ytbjoidhgcdcbgaa.Pure
