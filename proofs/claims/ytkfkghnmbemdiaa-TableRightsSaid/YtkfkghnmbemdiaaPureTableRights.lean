/- The statement TableRights over plain data: true. No condition. -/
import Derived.Test.YtkfkghnmbemdiaaFTableLem
import Derived.Test.YtkfkghnmbemdiaaFTablex6
namespace Go.Proofs.Ytkfkghnmbemdiaa.Pure
open Go.RowKit Go.Proofs.Ytkfkghnmbemdiaa.FTable Go.Proofs.Ytkfkghnmbemdiaa.TableLem Go.Proofs.YtkfkghnmbemdiaaW.PrintWords Go.Proofs.YtkfkghnmbemdiaaW.PrintLast
set_option linter.unusedSimpArgs false
set_option linter.unusedVariables false
theorem TableRights : remontoirlaw13_TableRights.Pure := by
  intro f l t hf hl ht
  obtain ⟨K, hK⟩ := knows_ev
  have hf' := wf_i64 hf
  have hv : ∀ x ∈ l, -9223372036854775808 ≤ x.f1 ∧ x.f1 ≤ 9223372036854775807 := fun x hx => wf_i64 (hl.2 x hx).2.1
  by_cases hg : l.length > 100
  · exact ⟨K, by unfold remontoirlaw13_TableRights.f; rw [if_pos (by omega), hK K (Nat.le_refl _)]; rfl⟩
  · obtain ⟨k, hk⟩ : ∃ k, k = K + 30000 := ⟨_, rfl⟩
    refine ⟨k + 1, ?_⟩
    have k1 : K ≤ k := by omega
    have k2 : 30000 ≤ k := by omega
    clear hk
    unfold remontoirlaw13_TableRights.f
    by_cases c : TR f l
    · have h2 := c.2
      have fin : ∀ v : Int, v = (if TR f l ∧ 0 ≤ t then who l (Int.tmod t f) else -1) → remontoirlaw13_TableRights.j0 (k + 1) t (tk f.toNat (who l)) 0 v f l = some true := by
        intro v hv
        rw [remontoirlaw13_TableRights.j0, RTicks_ev f l (by omega) c k (by omega), Option.bind_some, SameInts_ev _ _ rfl (by rw [tk_len]; omega) k (by rw [tk_len]; omega), Option.bind_some, if_pos rfl, if_pos rfl, At_ev f hf' l (by omega) t k (by omega), Option.bind_some, if_pos hv.symm, hK k k1]; rfl
      rw [if_neg (by omega), Ticks_ev f l (by omega) c (k + 1) (by omega), Option.bind_some, RRight_ev f l (by omega) hv (k + 1) (by omega), Option.bind_some, Right_ev f hf' l (by omega) (k + 1) (by omega), Option.bind_some, if_neg (by simp), decide_eq_true c, if_pos rfl]
      by_cases c1 : t ≥ 0
      · rw [if_pos c1, RAt_ev f l (by omega) t c (k + 1) (by omega), Option.bind_some]
        exact fin _ (by rw [if_pos ⟨c, c1⟩])
      · rw [if_neg c1]
        exact fin _ (by rw [if_neg (fun h => c1 h.2)])
    · rw [if_neg (by omega), Ticks_bad f hf' l (by omega) c (k + 1) (by omega), Option.bind_some, RRight_ev f l (by omega) hv (k + 1) (by omega), Option.bind_some, Right_ev f hf' l (by omega) (k + 1) (by omega), Option.bind_some, if_neg (by simp), decide_eq_false c, if_neg (by decide), if_pos (by simp), if_pos rfl, At_ev f hf' l (by omega) t (k + 1) (by omega), Option.bind_some, if_pos (by rw [if_neg (fun h => c h.1)]), hK _ (by omega)]
      rfl
end Go.Proofs.Ytkfkghnmbemdiaa.Pure
