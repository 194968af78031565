/- The statement HeapMakes over plain data: true. No condition. -/
import Derived.Test.YtdfokaldjfpkhaaFHeapLem
import Derived.Test.YtdfokaldjfpkhaaFHeapx11
namespace Go.Proofs.Ytdfokaldjfpkhaa.Pure
open Go.RowKit Go.Proofs.Ytdfokaldjfpkhaa.FHeap Go.Proofs.Ytdfokaldjfpkhaa.HeapLem Go.Proofs.Ytdfokaldjfpkhaa.HeapMath Go.Proofs.YtdfokaldjfpkhaaW.PrintWords Go.Proofs.YtdfokaldjfpkhaaW.PrintLast
set_option linter.unusedSimpArgs false
set_option linter.unusedVariables false
theorem HeapMakes : remontoirlaw02_HeapMakes.Pure := by
  intro l a b hl ha hb
  obtain ⟨K, hK⟩ := knows_ev
  by_cases hg : l.length > 100
  · exact ⟨K, by unfold remontoirlaw02_HeapMakes.f; rw [if_pos (by omega), hK K (Nat.le_refl _)]; rfl⟩
  · obtain ⟨h, eh, oh, ph⟩ := Make_ev l (by omega)
    obtain ⟨g, eg, og, pg⟩ := Push_ev l a b (by omega)
    have qh := ph.length_eq
    have qg := pg.length_eq
    simp at qg
    refine ⟨K + 1002001, ?_⟩
    unfold remontoirlaw02_HeapMakes.f
    rw [if_neg (by omega), eh _ (by omega), Option.bind_some, eg _ (by omega), Option.bind_some, Option.bind_some, if_pos (by simp; omega), Option.bind_some, Option.bind_some, if_pos (by simp; omega),
      Right_ev l (by omega) _ (by omega), Option.bind_some, as_ev l (by omega) _ (by omega), Option.bind_some, RRight_ev l (by omega) _ (by omega), Option.bind_some, if_pos (by simp),
      as_ev h (by omega) _ (by omega), Option.bind_some, RRight_ev h (by omega) _ (by omega), Option.bind_some, if_pos (by simpa using oh), alike_ev h l ph (by omega) _ (by omega), Option.bind_some, if_pos rfl,
      as_ev g (by omega) _ (by omega), Option.bind_some, RRight_ev g (by omega) _ (by omega), Option.bind_some, if_pos (by simpa using og), show ([] ++ l ++ [(⟨a, b⟩ : S34)]) = l ++ [⟨a, b⟩] from rfl, alike_ev g _ pg (by omega) _ (by omega), Option.bind_some, if_pos rfl, hK _ (by omega)]
    rfl
end Go.Proofs.Ytdfokaldjfpkhaa.Pure
