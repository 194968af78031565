/- The statement SpanTicks: whether a tick is in spans is what the document says; and it is in their row just if it is in them. No condition. -/
import Derived.Test.YtdfokaldjfpkhaaFSpanLem
import Derived.Test.YtdfokaldjfpkhaaFSpanx9
namespace Go.Proofs.Ytdfokaldjfpkhaa.Pure
open Go.RowKit Go.Proofs.Ytdfokaldjfpkhaa.FSpan Go.Proofs.YtdfokaldjfpkhaaW.PrintWords Go.Proofs.YtdfokaldjfpkhaaW.PrintLast Go.Proofs.Ytdfokaldjfpkhaa.SpanLem
set_option linter.unusedSimpArgs false
set_option linter.unusedVariables false

theorem SpanTicks : remontoirlaw04_SpanTicks.Pure := by
  intro l t hl ht
  obtain ⟨K, hK⟩ := knows_ev
  refine ⟨K + 5000, ?_⟩
  have hk : ∀ j, K ≤ j → (remontoirlaw04_knows.f j).bind (fun t => some t) = some true := fun j hj => by rw [hK j hj]; rfl
  unfold remontoirlaw04_SpanTicks.f remontoirlaw04_great.f
  rw [Option.bind_some]
  by_cases hg : (l.length : Int) > 40
  · rw [if_pos (decide_eq_true hg), hk _ (by omega)]
  · obtain ⟨h1, h2, h3⟩ := norm_spec l
    rw [if_neg (by simpa using hg), in_ev l (by omega) t _ (by omega), Option.bind_some, rin_ev l (by omega) t _ (by omega), Option.bind_some, if_pos (by simp), norm_ev l (by omega) _ (by omega), Option.bind_some,
      in_ev (norm l) (by omega) t _ (by omega), Option.bind_some, Option.bind_some, if_pos (by simp [h2 t]), hk _ (by omega)]
end Go.Proofs.Ytdfokaldjfpkhaa.Pure
