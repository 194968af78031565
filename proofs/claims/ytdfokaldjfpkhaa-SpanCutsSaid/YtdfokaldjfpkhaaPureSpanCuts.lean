/- The statement SpanCuts: what is cut, and what is left without a span, is in a row, and has just the ticks that it should. No condition. -/
import Derived.Test.YtdfokaldjfpkhaaFSpanLem
import Derived.Test.YtdfokaldjfpkhaaFSpanx11
namespace Go.Proofs.Ytdfokaldjfpkhaa.Pure
open Go.RowKit Go.Proofs.Ytdfokaldjfpkhaa.FSpan Go.Proofs.YtdfokaldjfpkhaaW.PrintWords Go.Proofs.YtdfokaldjfpkhaaW.PrintLast Go.Proofs.Ytdfokaldjfpkhaa.SpanLem
set_option linter.unusedSimpArgs false
set_option linter.unusedVariables false

theorem SpanCuts : remontoirlaw04_SpanCuts.Pure := by
  intro l a b x0 x1 t hl _ _ _ _ _
  obtain ⟨K, hK⟩ := knows_ev
  refine ⟨K + 5000, ?_⟩
  have hk : ∀ j, K ≤ j → (remontoirlaw04_knows.f j).bind (fun t => some t) = some true := fun j hj => by rw [hK j hj]; rfl
  unfold remontoirlaw04_SpanCuts.f remontoirlaw04_great.f
  rw [Option.bind_some]
  by_cases hg : (l.length : Int) > 40
  · rw [if_pos (decide_eq_true hg), hk _ (by omega)]
  · obtain ⟨h1, h2, h3⟩ := norm_spec l
    obtain ⟨c1, c2, c3, _⟩ := cut_spec _ h1 a b
    obtain ⟨w1, w2, w3⟩ := without_spec l ⟨x0, x1⟩
    have hw := without_ev l (by omega) ⟨x0, x1⟩ (K + 5000) (by omega)
    dsimp only at hw
    rw [if_neg (by simpa using hg), cut_ev l (by omega) a b _ (by omega), Option.bind_some, hw, Option.bind_some, rin_ev l (by omega) t _ (by omega), Option.bind_some, rin_ev [⟨x0, x1⟩] (by simp) t _ (by omega), Option.bind_some,
      rright_ev _ (by omega) c1 _ (by omega), Option.bind_some, if_pos rfl, rright_ev _ (by omega) w1 _ (by omega), Option.bind_some, if_pos rfl, rin_ev _ (by omega) t _ (by omega), Option.bind_some, rin_ev _ (by omega) t _ (by omega),
      Option.bind_some, Option.bind_some, hk _ (by omega)]
    have hc := (c2 t).trans (and_congr_left' (h2 t))
    by_cases hi : In l t
    · rw [if_pos (decide_eq_true hi)]
      have hw2 : decide (In (without l ⟨x0, x1⟩) t) = !decide (In [⟨x0, x1⟩] t) := by
        by_cases hx : In [⟨x0, x1⟩] t
        · rw [decide_eq_true hx, decide_eq_false (fun h => ((w2 t).1 h).2 hx)]; rfl
        · rw [decide_eq_false hx, decide_eq_true ((w2 t).2 ⟨hi, hx⟩)]; rfl
      by_cases ha : t ≥ a
      · rw [if_pos ha, if_pos, if_pos (by rw [hw2]; simp)]
        rw [beq_iff_eq]; apply decide_eq_decide.2; rw [hc]; exact ⟨fun h => h.2.2, fun h => ⟨hi, ha, h⟩⟩
      · rw [if_neg ha, if_pos (by rw [decide_eq_false (fun h => ha (hc.1 h).2.1)]; rfl), if_pos (by rw [hw2]; simp)]
    · rw [if_neg (by simpa using hi), if_pos (by rw [decide_eq_false (fun h => hi (hc.1 h).1)]; rfl), if_pos (by rw [decide_eq_false (fun h => hi ((w2 t).1 h).1)]; rfl)]
end Go.Proofs.Ytdfokaldjfpkhaa.Pure
