/- The statement HeapSorts over plain data: true. No condition. -/
import Derived.Test.YtdfokaldjfpkhaaFHeapLem
import Derived.Test.YtdfokaldjfpkhaaFHeapx14
namespace Go.Proofs.Ytdfokaldjfpkhaa.Pure
open Go.RowKit Go.Proofs.Ytdfokaldjfpkhaa.FHeap Go.Proofs.Ytdfokaldjfpkhaa.HeapLem Go.Proofs.Ytdfokaldjfpkhaa.HeapMath Go.Proofs.YtdfokaldjfpkhaaW.PrintWords Go.Proofs.YtdfokaldjfpkhaaW.PrintLast
set_option linter.unusedSimpArgs false
set_option linter.unusedVariables false
theorem HeapSorts : remontoirlaw02_HeapSorts.Pure := by
  intro l hl
  obtain ⟨K, hK⟩ := knows_ev
  by_cases hg : l.length > 100
  · exact ⟨K, by unfold remontoirlaw02_HeapSorts.f; rw [if_pos (by omega), hK K (Nat.le_refl _)]; rfl⟩
  · obtain ⟨s, es, ss, ps⟩ := Sort_ev l (by omega)
    have qs := ps.length_eq
    obtain ⟨t, et, st, pt⟩ := RSort_ev (cvs l) (by rw [cvs_len]; omega)
    refine ⟨K + 1002001, ?_⟩
    unfold remontoirlaw02_HeapSorts.f
    rw [if_neg (by omega), es _ (by omega), Option.bind_some, as_ev s (by omega) _ (by omega), Option.bind_some, as_ev l (by omega) _ (by omega), Option.bind_some, et _ (by omega), Option.bind_some,
      Same_ev (cvs s) t (sorted_unique (cvs_sorted ss) st ((cvs_perm ps).trans pt.symm)) (by rw [cvs_len]; omega) _ (by rw [cvs_len]; omega), Option.bind_some, if_pos rfl, hK _ (by omega)]
    rfl
end Go.Proofs.Ytdfokaldjfpkhaa.Pure
