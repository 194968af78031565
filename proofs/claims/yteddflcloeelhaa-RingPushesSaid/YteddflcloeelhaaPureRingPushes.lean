/- The statement RingPushes: a ring with a message more is what the document says, or the error is told. No condition. -/
import Derived.Test.YteddflcloeelhaaFRingLem
import Derived.Test.YteddflcloeelhaaFRingx6
namespace Go.Proofs.Yteddflcloeelhaa.Pure
open Go.RowKit Go.Proofs.Yteddflcloeelhaa.FRing Go.Proofs.YteddflcloeelhaaW.PrintWords Go.Proofs.YteddflcloeelhaaW.PrintLast Go.Proofs.Yteddflcloeelhaa.RingLem
set_option linter.unusedSimpArgs false
set_option linter.unusedVariables false

theorem RingPushes : remontoirlaw03_RingPushes.Pure := by
  intro l f m v gl gf gm gv
  obtain ⟨K, hK⟩ := knows_ev
  refine ⟨K + 500, ?_⟩
  unfold remontoirlaw03_RingPushes.f
  have hk : (remontoirlaw03_knows.f (K + 500)).bind (fun t => some t) = some true := by rw [hK _ (by omega)]; rfl
  by_cases hl : (l.length : Int) > 100
  · rw [if_pos hl, hk]
  · rw [if_neg hl, push_ev l (by omega) f m v _ (by omega), as_ev]
    by_cases h : Rg l f m
    · by_cases hm : m = l.length
      · rw [if_pos h, if_pos hm, Option.bind_some, Option.bind_some]
        dsimp only
        rw [rright_ev l (by omega) f m _ (by omega), Option.bind_some, if_pos (by simpa using h), if_pos hm, as_ev, Option.bind_some]
        dsimp only
        rw [sameR_ev _ _ (by omega) _ _ _ _ _ (by omega), Option.bind_some, if_pos (by simp), if_pos rfl, hk]
      · have h' := h
        unfold Rg at h'
        rw [if_pos h, if_neg hm, Option.bind_some, Option.bind_some]
        dsimp only
        rw [rright_ev l (by omega) f m _ (by omega), Option.bind_some, if_pos (by simpa using h), if_neg hm, as_ev, Option.bind_some, with_ev l (by omega) f m v h (by omega) _ (by omega), Option.bind_some]
        dsimp only
        rw [sameR_ev _ _ (by simp; omega) _ _ _ _ _ (by simp; omega), Option.bind_some, if_pos (by simp), if_pos rfl, hk]
    · rw [if_neg h, Option.bind_some, Option.bind_some]
      dsimp only
      rw [rright_ev l (by omega) f m _ (by omega), Option.bind_some, if_neg (by simpa using h), as_ev, Option.bind_some]
      dsimp only
      rw [sameR_ev _ _ (by omega) _ _ _ _ _ (by omega), Option.bind_some, if_pos (by simp), if_pos rfl, hk]

end Go.Proofs.Yteddflcloeelhaa.Pure
