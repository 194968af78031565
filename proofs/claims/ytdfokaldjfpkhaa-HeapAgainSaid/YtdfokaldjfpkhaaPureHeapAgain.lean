/- The statement HeapAgain over plain data: true. No condition. -/
import Derived.Test.YtdfokaldjfpkhaaFHeapLem
import Derived.Test.YtdfokaldjfpkhaaFHeapx15
namespace Go.Proofs.Ytdfokaldjfpkhaa.Pure
open Go.RowKit Go.Proofs.Ytdfokaldjfpkhaa.FHeap Go.Proofs.Ytdfokaldjfpkhaa.HeapLem Go.Proofs.Ytdfokaldjfpkhaa.HeapMath Go.Proofs.YtdfokaldjfpkhaaW.PrintWords Go.Proofs.YtdfokaldjfpkhaaW.PrintLast
set_option linter.unusedSimpArgs false
set_option linter.unusedVariables false
theorem HeapAgain : remontoirlaw02_HeapAgain.Pure := by
  intro l a hl ha
  obtain ⟨K, hK⟩ := knows_ev
  have ha' : 0 ≤ a ∧ a ≤ 255 := (show IntKind.u8.min ≤ a ∧ a ≤ IntKind.u8.max by simpa [Lit.wf] using ha)
  have hz : ∀ k, K + 1 ≤ k → 8 ≤ k → remontoirlaw02_HeapAgain.j0 k l a true = some true := by
    intro k hk hk8
    obtain ⟨k, rfl⟩ : ∃ k', k = k' + 1 := ⟨k - 1, by omega⟩
    obtain ⟨s, es, ss, ps⟩ := Sort_ev (l.take 0) (by simp)
    have e0 : s = [] := by simpa using ps
    subst e0
    rw [remontoirlaw02_HeapAgain.j0, if_pos rfl, if_pos (by omega), es _ (by simp; omega), Option.bind_some, if_pos (by simp), hK _ (by omega)]; rfl
  by_cases hg : l.length > 100
  · exact ⟨K + 8, by unfold remontoirlaw02_HeapAgain.f; rw [if_pos (by omega)]; exact hz _ (by omega) (by omega)⟩
  · by_cases h0 : l = []
    · refine ⟨K + 8, ?_⟩
      unfold remontoirlaw02_HeapAgain.f
      rw [if_neg (by omega), show ((l.length : Int) == 0) = true by simp [h0]]; exact hz _ (by omega) (by omega)
    · have hp : 0 < l.length := List.length_pos_iff.2 h0
      obtain ⟨s, es, ss, ps⟩ := Sort_ev l (by omega)
      have qs := ps.length_eq
      obtain ⟨m, em⟩ : ∃ m : Nat, Int.tmod (wrap64 a) (l.length : Int) = (m : Int) ∧ m ≤ l.length := by
        rw [w64 (by omega) (by omega), Int.tmod_eq_emod_of_nonneg (by omega)]
        have h1 := Int.emod_nonneg a (show (l.length : Int) ≠ 0 by omega)
        have h2 := Int.emod_lt_of_pos a (show (0 : Int) < l.length by omega)
        exact ⟨(a % (l.length : Int)).toNat, by omega, by omega⟩
      obtain ⟨em, hm⟩ := em
      have pr : (l.drop m ++ l.take m).Perm l := by
        have := List.perm_append_comm (l₁ := l.drop m) (l₂ := l.take m)
        rw [List.take_append_drop] at this; exact this
      obtain ⟨t, et, st, pt⟩ := Sort_ev (l.drop m ++ l.take m) (by simp; omega)
      have qt := pt.length_eq
      rw [pr.length_eq] at qt
      obtain ⟨x, ex, mx, lx⟩ := Min_ev l (by omega) h0
      obtain ⟨u, eu, su, pu⟩ := Sort_ev s (by omega)
      have qu := pu.length_eq
      have e1 : cvs u = cvs s := sorted_unique (cvs_sorted su) (cvs_sorted ss) (cvs_perm pu)
      have e2 : cvs s = cvs t := sorted_unique (cvs_sorted ss) (cvs_sorted st) (cvs_perm (ps.trans (pr.symm.trans pt.symm)))
      have e3 : At s 0 = x := by
        refine Le.anti ?_ (lx _ (ps.mem_iff.1 (by rw [at_get s 0 (by omega)]; exact List.getElem_mem _)))
        obtain ⟨j, hj, rfl⟩ := List.getElem_of_mem (ps.mem_iff.2 mx)
        rw [at_get s 0 (by omega)]
        by_cases c : j = 0
        · subst c; exact Le.refl _
        · exact List.pairwise_iff_getElem.1 ss 0 j (by omega) hj (by omega)
      refine ⟨K + 1002002, ?_⟩
      unfold remontoirlaw02_HeapAgain.f
      rw [if_neg (by omega), show ((l.length : Int) == 0) = false by simp; omega]
      rw [show K + 1002002 = (K + 1002001) + 1 from rfl, remontoirlaw02_HeapAgain.j0, if_neg (by decide), if_neg (by omega), es _ (by omega), Option.bind_some, Option.bind_some, em, if_pos (by omega), if_pos (by omega), Option.bind_some, if_pos (by simp; omega), Option.bind_some, Option.bind_some, if_pos (by simp; omega)]
      rw [show ([] ++ l.drop ((m : Int)).toNat ++ l.take ((m : Int)).toNat) = l.drop m ++ l.take m by simp, et _ (by rw [pr.length_eq]; omega), Option.bind_some, ex _ (by omega), Option.bind_some, if_pos (by omega), if_pos (by omega)]
      rw [if_pos (by rw [show rd_T34 s 0 = At s 0 from rfl, e3]; simp), if_pos rfl, eu _ (by omega), Option.bind_some, as_ev u (by omega) _ (by omega), Option.bind_some, as_ev s (by omega) _ (by omega), Option.bind_some,
        Same_ev _ _ e1 (by rw [cvs_len]; omega) _ (by rw [cvs_len]; omega), Option.bind_some, if_pos rfl, Option.bind_some, as_ev t (by omega) _ (by omega), Option.bind_some,
        Same_ev _ _ e2 (by rw [cvs_len]; omega) _ (by rw [cvs_len]; omega), Option.bind_some, if_pos rfl, Right_ev s (by omega) _ (by omega), Option.bind_some, if_pos (by simpa using sorted_ok s ss), hK _ (by omega)]
      rfl
end Go.Proofs.Ytdfokaldjfpkhaa.Pure
