/- The statement RingPops: the first message, and a ring without it, is what the document says, or the error is told. No condition. -/
import Derived.Test.YteddflcloeelhaaFRingLem
import Derived.Test.YteddflcloeelhaaFRingx8
namespace Go.Proofs.Yteddflcloeelhaa.Pure
open Go.RowKit Go.Proofs.Yteddflcloeelhaa.FRing Go.Proofs.YteddflcloeelhaaW.PrintWords Go.Proofs.YteddflcloeelhaaW.PrintLast Go.Proofs.Yteddflcloeelhaa.RingLem
set_option linter.unusedSimpArgs false
set_option linter.unusedVariables false

theorem RingPops : remontoirlaw03_RingPops.Pure := by
  intro l f m gl gf gm
  obtain ⟨K, hK⟩ := knows_ev
  refine ⟨K + 500, ?_⟩
  unfold remontoirlaw03_RingPops.f
  have hk : (remontoirlaw03_knows.f (K + 500)).bind (fun t => some t) = some true := by rw [hK _ (by omega)]; rfl
  by_cases hl : (l.length : Int) > 100
  · rw [if_pos hl, hk]
  · rw [if_neg hl, pop_ev l (by omega) f m _ (by omega), as_ev]
    by_cases h : Rg l f m
    · by_cases hm : m = 0
      · rw [if_pos h, if_pos hm, Option.bind_some, Option.bind_some]
        dsimp only
        rw [rright_ev l (by omega) f m _ (by omega), Option.bind_some, if_pos (by simpa using h), if_pos hm, if_pos rfl, as_ev, Option.bind_some]
        dsimp only
        rw [sameR_ev _ _ (by omega) _ _ _ _ _ (by omega), Option.bind_some, if_pos (by simp), if_pos rfl, hk]
      · have h' := h
        unfold Rg at h'
        obtain ⟨a, rfl⟩ : ∃ a : Nat, f = a := ⟨f.toNat, by omega⟩
        obtain ⟨b, rfl⟩ : ∃ b : Nat, m = ((b + 1 : Nat) : Int) := ⟨m.toNat - 1, by omega⟩
        rw [if_pos h, if_neg hm, Option.bind_some, Option.bind_some]
        dsimp only
        have e0 : rd (msgs l a (b + 1)) 0 = rd l (a : Int) := by rw [msgs_pop l a b (by omega)]; rfl
        rw [rright_ev l (by omega) _ _ _ (by omega), Option.bind_some, if_pos (by simpa using h), if_neg hm, rlist_ev l (by omega) _ _ h, Option.bind_some, Int.toNat_natCast, Int.toNat_natCast, if_pos (by rw [msgs_length]; omega), e0, if_pos rfl, as_ev, Option.bind_some, without_ev l (by omega) _ _ h _ (by omega), Option.bind_some]
        dsimp only
        rw [sameR_ev _ _ (by omega) _ _ _ _ _ (by omega), Option.bind_some, if_pos (by simp), if_pos rfl, hk]
    · rw [if_neg h, Option.bind_some, Option.bind_some]
      dsimp only
      rw [rright_ev l (by omega) f m _ (by omega), Option.bind_some, if_neg (by simpa using h), if_pos rfl, as_ev, Option.bind_some]
      dsimp only
      rw [sameR_ev _ _ (by omega) _ _ _ _ _ (by omega), Option.bind_some, if_pos (by simp), if_pos rfl, hk]

end Go.Proofs.Yteddflcloeelhaa.Pure
