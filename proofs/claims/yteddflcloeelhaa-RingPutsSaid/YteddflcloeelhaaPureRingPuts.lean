/- The statement RingPuts: a message that is put is there, behind all; of a full ring the first one is lost. No condition. -/
import Derived.Test.YteddflcloeelhaaFRingLem
import Derived.Test.YteddflcloeelhaaFRingx9
namespace Go.Proofs.Yteddflcloeelhaa.Pure
open Go.RowKit Go.Proofs.Yteddflcloeelhaa.FRing Go.Proofs.YteddflcloeelhaaW.PrintWords Go.Proofs.YteddflcloeelhaaW.PrintLast Go.Proofs.Yteddflcloeelhaa.RingLem
set_option linter.unusedSimpArgs false
set_option linter.unusedVariables false

theorem RingPuts : remontoirlaw03_RingPuts.Pure := by
  intro l f m v gl gf gm gv
  obtain ⟨K, hK⟩ := knows_ev
  refine ⟨K + 500, ?_⟩
  unfold remontoirlaw03_RingPuts.f
  have hk : ∀ j, K ≤ j → (remontoirlaw03_knows.f j).bind (fun t => some t) = some true := fun j hj => by rw [hK j hj]; rfl
  by_cases hl : (l.length : Int) > 100
  · rw [if_pos hl, hk _ (by omega)]
  · rw [if_neg hl]
    unfold ring_Put.f
    rw [push_ev l (by omega) f m v _ (by omega), as_ev]
    have hend : ∀ (x y : List Int) (a b c d : Int), x.length ≤ 100 → Rg y c d → d < y.length → y.length ≤ 100 → x = y.set (place y c.toNat d.toNat) v → a = c → b = d + 1 → remontoirlaw03_RingPuts.j0 (K + 500) v x a b y c d = some true := by
      intro x y a b c d hx hr hd hy e1 e2 e3
      rw [remontoirlaw03_RingPuts.j0, as_ev, Option.bind_some, with_ev y hy c d v hr hd _ (by omega), Option.bind_some]
      dsimp only
      rw [sameR_ev _ _ (by omega) _ _ _ _ _ (by omega), Option.bind_some, if_pos (by simp [e1, e2, e3]), hk _ (by omega)]
    by_cases h : Rg l f m
    · by_cases hm : m = l.length
      · have h' := h
        unfold Rg at h'
        have hp := place_lt l h'.1 f.toNat 1
        have h2 : Rg l ((place l f.toNat 1 : Nat) : Int) (m - 1) := by unfold Rg; omega
        rw [if_pos h, if_pos hm, Option.bind_some]
        dsimp only
        rw [if_pos rfl, pop_ev l (by omega) f m _ (by omega), if_pos h, if_neg (by omega), Option.bind_some]
        dsimp only
        rw [push_ev l (by omega) _ _ v _ (by omega), if_pos h2, if_neg (show ¬ (m - 1 = (l.length : Int)) by omega), Option.bind_some, Option.bind_some, Option.bind_some]
        dsimp only
        rw [rright_ev l (by omega) f m _ (by omega), Option.bind_some, if_pos (by simpa using h), if_pos hm, without_ev l (by omega) f m h _ (by omega), Option.bind_some]
        dsimp only
        exact hend _ _ _ _ _ _ (by simp; omega) h2 (by omega) (by omega) rfl rfl rfl
      · have h' := h
        unfold Rg at h'
        rw [if_pos h, if_neg hm, Option.bind_some]
        dsimp only
        rw [if_neg (by decide), Option.bind_some, Option.bind_some]
        dsimp only
        rw [rright_ev l (by omega) f m _ (by omega), Option.bind_some, if_pos (by simpa using h), if_neg hm]
        exact hend _ _ _ _ _ _ (by simp; omega) h (by omega) (by omega) rfl rfl rfl
    · rw [if_neg h, Option.bind_some]
      dsimp only
      rw [if_neg (by decide), Option.bind_some, Option.bind_some]
      dsimp only
      rw [rright_ev l (by omega) f m _ (by omega), Option.bind_some, if_neg (by simpa using h), as_ev, Option.bind_some]
      dsimp only
      rw [sameR_ev _ _ (by omega) _ _ _ _ _ (by omega), Option.bind_some, if_pos (by simp), hk _ (by omega)]

end Go.Proofs.Yteddflcloeelhaa.Pure
