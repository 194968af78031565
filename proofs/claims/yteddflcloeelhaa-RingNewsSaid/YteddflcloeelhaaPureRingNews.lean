/- The statement RingNews: which rings are right, their messages, and how they begin, is what the document says, or the error is told. No condition. -/
import Derived.Test.YteddflcloeelhaaFRingLem
import Derived.Test.YteddflcloeelhaaFRingx4
namespace Go.Proofs.Yteddflcloeelhaa.Pure
open Go.RowKit Go.Proofs.Yteddflcloeelhaa.FRing Go.Proofs.YteddflcloeelhaaW.PrintWords Go.Proofs.YteddflcloeelhaaW.PrintLast Go.Proofs.Yteddflcloeelhaa.RingLem
set_option linter.unusedSimpArgs false
set_option linter.unusedVariables false

theorem new_ev (n : Int) : ring_New.f n = if 1 ≤ n ∧ n ≤ 4 then some (List.replicate n.toNat 0, 0, 0, 0) else some ([], 0, 0, 1) := by
  unfold ring_New.f
  by_cases h1 : n < 1
  · rw [if_pos h1, if_neg (by omega)]
  · rw [if_neg h1]
    by_cases h2 : n > 4
    · rw [if_pos h2, if_neg (by omega)]
    · rw [if_neg h2, if_pos (by omega), if_pos (by omega), if_pos (by omega)]
theorem RingNews : remontoirlaw03_RingNews.Pure := by
  intro l f m n gl gf gm gn
  obtain ⟨K, hK⟩ := knows_ev
  refine ⟨K + 500, ?_⟩
  unfold remontoirlaw03_RingNews.f
  have hk : ∀ j, K ≤ j → (remontoirlaw03_knows.f j).bind (fun t => some t) = some true := fun j hj => by rw [hK j hj]; rfl
  by_cases hl : (l.length : Int) > 100
  · rw [if_pos hl, hk _ (by omega)]
  · rw [if_neg hl, as_ev, new_ev]
    have hend : ∀ r, (if 1 ≤ n ∧ n ≤ 4 then some (List.replicate n.toNat (0 : Int), (0 : Int), (0 : Int), (0 : Int)) else some ([], 0, 0, 1)) = some r → remontoirlaw03_RingNews.j0 (K + 500) n r.2.2.2 false r.1 r.2.1 r.2.2.1 = some true := by
      intro r hr
      rw [remontoirlaw03_RingNews.j0, if_neg (by simp)]
      by_cases hn : 1 ≤ n ∧ n ≤ 4
      · rw [if_pos hn] at hr
        obtain rfl := Option.some.inj hr
        dsimp only
        rw [if_neg (by omega), decide_eq_false (by omega), remontoirlaw03_RingNews.j1, if_neg (by simp), as_ev, Option.bind_some, if_pos (by omega), if_pos (by omega)]
        dsimp only
        rw [sameR_ev _ _ (by simp; omega) _ _ _ _ _ (by simp; omega), Option.bind_some, if_pos (by simp), if_pos rfl, hk _ (by omega)]
      · rw [if_neg hn] at hr
        obtain rfl := Option.some.inj hr
        dsimp only
        have hj : ∀ x, x = true → remontoirlaw03_RingNews.j1 (K + 499) n 1 x [] 0 0 = some true := by
          intro x hx
          rw [remontoirlaw03_RingNews.j1, if_pos hx, if_pos (show ((([] : List Int).length : Nat) : Int) = 0 from rfl), if_pos rfl, if_pos rfl, if_pos rfl, hk _ (by omega)]
        by_cases h1 : n < 1
        · rw [if_pos h1]; exact hj _ rfl
        · rw [if_neg h1]; exact hj _ (decide_eq_true (by omega))
    obtain ⟨r, hr⟩ : ∃ r, (if 1 ≤ n ∧ n ≤ 4 then some (List.replicate n.toNat (0 : Int), (0 : Int), (0 : Int), (0 : Int)) else some ([], 0, 0, 1)) = some r := by split <;> exact ⟨_, rfl⟩
    rw [hr, Option.bind_some, Option.bind_some]
    dsimp only
    rw [rright_ev l (by omega) f m _ (by omega), Option.bind_some, list_ev l (by omega) f m _ (by omega), right_ev l f m _ (by omega)]
    by_cases h : Rg l f m
    · have h' := h
      unfold Rg at h'
      rw [if_pos h, Option.bind_some, Option.bind_some, if_neg (by simp), if_pos (by simpa using h), Option.bind_some, rlist_ev l (by omega) f m h, Option.bind_some, same_ev _ _ (by rw [msgs_length]; omega) _ (by rw [msgs_length]; omega), Option.bind_some]
      simp only [decide_true, Bool.not_true]
      exact hend r hr
    · rw [if_neg h, Option.bind_some, Option.bind_some, if_neg (by simp), if_neg (by simpa using h), if_pos (by simp)]
      exact hend r hr

end Go.Proofs.Yteddflcloeelhaa.Pure
