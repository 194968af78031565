/- The statement SpanAgain: the row of spans in a row is they; the order of spans makes no difference; and a span that was taken out can be put back. No condition. -/
import Derived.Test.YtdfokaldjfpkhaaFSpanLem
import Derived.Test.YtdfokaldjfpkhaaFSpanx12
namespace Go.Proofs.Ytdfokaldjfpkhaa.Pure
open Go.RowKit Go.Proofs.Ytdfokaldjfpkhaa.FSpan Go.Proofs.YtdfokaldjfpkhaaW.PrintWords Go.Proofs.YtdfokaldjfpkhaaW.PrintLast Go.Proofs.Ytdfokaldjfpkhaa.SpanLem
set_option linter.unusedSimpArgs false
set_option linter.unusedVariables false

theorem SpanAgain : remontoirlaw04_SpanAgain.Pure := by
  intro l u hl hu
  obtain ⟨K, hK⟩ := knows_ev
  refine ⟨K + 5001, ?_⟩
  have hk : ∀ j, K ≤ j → (remontoirlaw04_knows.f j).bind (fun t => some t) = some true := fun j hj => by rw [hK j hj]; rfl
  have hu' : 0 ≤ u ∧ u ≤ 255 := by
    simp [Lit.wf, IntKind.min, IntKind.max, IntKind.signed, IntKind.bits] at hu
    omega
  have hA : ∀ y, y = true → remontoirlaw04_SpanAgain.j0 (K + 5001) l u y = some true := by
    intro y hy
    rw [remontoirlaw04_SpanAgain.j0, if_pos hy, if_pos (by omega), List.take_zero, norm_ev [] (by simp) _ (by omega), Option.bind_some, if_pos (by rfl), hk _ (by omega)]
  unfold remontoirlaw04_SpanAgain.f remontoirlaw04_great.f
  rw [Option.bind_some]
  by_cases hg : (l.length : Int) > 40
  · rw [if_pos (decide_eq_true hg), hA _ rfl]
  · rw [if_neg (by simpa using hg)]
    by_cases h0 : (l.length : Int) = 0
    · exact hA _ (by rw [h0]; rfl)
    · obtain ⟨h1, h2, h3⟩ := norm_spec l
      obtain ⟨q, hq⟩ : ∃ q : Nat, Int.tmod u (l.length : Int) = (q : Int) ∧ q < l.length := by
        have := Int.tmod_nonneg (l.length : Int) hu'.1
        have := Int.tmod_lt_of_pos u (show (0 : Int) < l.length by omega)
        exact ⟨(Int.tmod u (l.length : Int)).toNat, by omega, by omega⟩
      rw [remontoirlaw04_SpanAgain.j0, if_neg (by simpa using h0), if_neg h0, norm_ev l (by omega) _ (by omega), Option.bind_some, Option.bind_some, w64 (by omega) (by omega), hq.1]
      obtain ⟨w1, w2, w3⟩ := without_spec l (rd_T29 l (q : Int))
      have hw := without_ev l (by omega) (rd_T29 l (q : Int)) (K + 5000) (by omega)
      have hmem : rd_T29 l (q : Int) ∈ l := by
        unfold rd_T29
        rw [Int.toNat_natCast, List.getD_eq_getElem?_getD, List.getElem?_eq_getElem hq.2]
        exact List.getElem_mem hq.2
      have e1 : norm (l.drop q ++ l.take q) = norm l := norm_norm (fun t => by
        rw [in_append, Or.comm, ← in_append, List.take_append_drop])
      have e2 : norm (without l (rd_T29 l (q : Int)) ++ [rd_T29 l (q : Int)]) = norm l := norm_norm (fun t => by
        rw [in_append, w2 t]
        constructor
        · rintro (h | h)
          · exact h.1
          · obtain ⟨z, hz, r⟩ := h
            rw [List.mem_singleton.1 hz] at r
            exact ⟨_, hmem, r⟩
        · intro h
          by_cases hx : In [rd_T29 l (q : Int)] t
          · exact .inr hx
          · exact .inl ⟨h, hx⟩)
      have e3 : norm (norm l) = norm l := norm_of_right h1
      have hs := same_ev (norm l) (by omega) (K + 5000) (by omega)
      rw [if_pos (by omega), if_pos (by omega), Int.toNat_natCast, Option.bind_some, if_pos (by simp; omega), Option.bind_some, Option.bind_some, if_pos (by simp; omega), List.nil_append, norm_ev _ (by simp; omega) _ (by omega), Option.bind_some, if_pos (by omega),
        hw, Option.bind_some, Option.bind_some, if_pos (by simp; omega), norm_ev _ (by simp; omega) _ (by omega), Option.bind_some, norm_ev _ (by omega) _ (by omega), Option.bind_some, e1, e2, e3, hs, Option.bind_some, if_pos rfl, Option.bind_some, if_pos rfl, Option.bind_some, if_pos rfl, hk _ (by omega)]
end Go.Proofs.Ytdfokaldjfpkhaa.Pure
