/- The statement HeapPops over plain data: true. No condition. -/
import Derived.Test.YtdfokaldjfpkhaaFHeapLem
import Derived.Test.YtdfokaldjfpkhaaFHeapx12
namespace Go.Proofs.Ytdfokaldjfpkhaa.Pure
open Go.RowKit Go.Proofs.Ytdfokaldjfpkhaa.FHeap Go.Proofs.Ytdfokaldjfpkhaa.HeapLem Go.Proofs.Ytdfokaldjfpkhaa.HeapMath Go.Proofs.YtdfokaldjfpkhaaW.PrintWords Go.Proofs.YtdfokaldjfpkhaaW.PrintLast
set_option linter.unusedSimpArgs false
set_option linter.unusedVariables false
theorem HeapPops : remontoirlaw02_HeapPops.Pure := by
  intro l hl
  obtain ⟨K, hK⟩ := knows_ev
  by_cases hg : l.length > 100
  · exact ⟨K, by unfold remontoirlaw02_HeapPops.f; rw [if_pos (by omega), hK K (Nat.le_refl _)]; rfl⟩
  · by_cases h0 : l = []
    · subst h0
      refine ⟨K, ?_⟩
      unfold remontoirlaw02_HeapPops.f
      rw [if_neg (by simp), Min_nil, Option.bind_some, Pop_nil, Option.bind_some, if_pos (by simp), if_pos (by simp), if_pos (by simp), if_pos (by simp), if_pos (by simp), if_pos (by simp), hK _ (Nat.le_refl _)]; rfl
    · obtain ⟨x, ex, mx, lx⟩ := Min_ev l (by omega) h0
      obtain ⟨y, h, ey, oh, py, ly⟩ := Pop_ev l (by omega) h0
      have e : x = y := Le.anti (lx y (py.mem_iff.1 (by simp))) (ly x mx)
      subst e
      have qh := py.length_eq
      simp at qh
      have hp : 0 < l.length := List.length_pos_iff.2 h0
      obtain ⟨s, es, ss, ps⟩ := RSort_ev (cvs l) (by rw [cvs_len]; omega)
      obtain ⟨t, et, st, pt⟩ := RSort_ev (cvs h) (by rw [cvs_len]; omega)
      have e : s = cv x :: t := by
        refine sorted_unique ss (List.pairwise_cons.2 ⟨?_, st⟩) (ps.trans ((cvs_perm py.symm).trans ?_))
        · intro b hb
          have : b ∈ cvs h := pt.mem_iff.1 hb
          obtain ⟨c, hc, rfl⟩ := List.mem_map.1 this
          exact lx c (py.mem_iff.1 (by simp [hc]))
        · exact List.Perm.cons _ pt.symm
      subst e
      have qt := pt.length_eq
      rw [cvs_len] at qt
      refine ⟨K + 1002001, ?_⟩
      unfold remontoirlaw02_HeapPops.f
      rw [if_neg (by omega), ex _ (by omega), Option.bind_some, ey _ (by omega), Option.bind_some, if_neg (by omega), as_ev l (by omega) _ (by omega), Option.bind_some, es _ (by omega), Option.bind_some, if_pos (by simp),
        if_pos (by simp [rd_T49, cv]), if_pos rfl, if_pos (by simp), if_pos rfl]
      dsimp only
      rw [as_ev h (by omega) _ (by omega), Option.bind_some, RRight_ev h (by omega) _ (by omega), Option.bind_some, if_pos (by simpa using oh), Option.bind_some, et _ (by omega), Option.bind_some, if_pos (by simp; omega), show (cv x :: t).drop 1 = t from rfl,
        Same_ev t t rfl (by omega) _ (by omega), Option.bind_some, if_pos rfl, hK _ (by omega)]
      rfl
end Go.Proofs.Ytdfokaldjfpkhaa.Pure
