/- The statement SynthLays over plain data: true. No condition. -/
import Derived.Test.YtkfkghnmbemdiaaFSynthLem
import Derived.Test.YtkfkghnmbemdiaaFSynthx7
import Derived.Test.YtkfkghnmbemdiaaFSynthLemSpec
namespace Go.Proofs.Ytkfkghnmbemdiaa.Pure
open Go.RowKit Go.Proofs.Ytkfkghnmbemdiaa.FSynth Go.Proofs.Ytkfkghnmbemdiaa.SynthArith Go.Proofs.Ytkfkghnmbemdiaa.SynthLem Go.Proofs.Ytkfkghnmbemdiaa.SynthLay Go.Proofs.Ytkfkghnmbemdiaa.SynthSpec Go.Proofs.YtkfkghnmbemdiaaW.PrintWords Go.Proofs.YtkfkghnmbemdiaaW.PrintLast Go.Proofs.YtkfkghnmbemdiaaW.PrintMore
set_option linter.unusedSimpArgs false
set_option linter.unusedVariables false
set_option maxRecDepth 100000 in
theorem SynthLays : remontoirlaw12_SynthLays.Pure := by
  intro l hl
  obtain ⟨K, hK⟩ := knows_ev
  by_cases hg : l.length > 20
  · exact ⟨K, by unfold remontoirlaw12_SynthLays.f; rw [if_pos (by omega), hK K (Nat.le_refl _)]; rfl⟩
  · refine ⟨K + 300000, ?_⟩
    have fin : ∀ (a : List Int) (e : Int), a.length ≤ 240 → (∀ k, 300000 ≤ k → synth_Lay.f k l = some (a, e) ∧ remontoirref12_Lay.f k l = some (a, e)) → remontoirlaw12_SynthLays.f (K + 300000) l = some true := by
      intro a e ha h
      unfold remontoirlaw12_SynthLays.f
      rw [if_neg (by omega), (h _ (by omega)).1, Option.bind_some, (h _ (by omega)).2, Option.bind_some]
      dsimp only
      rw [SameInts_ev a a rfl (by omega) _ (by omega), Option.bind_some, if_pos rfl, if_pos rfl, hK _ (by omega)]; rfl
    rcases Lay_ev l with ⟨fr, G, L, h⟩ | ⟨fr, e, G, L, h⟩ | ⟨e, _, h⟩
    · exact fin G 0 (by have := L.len; have := L.most; omega) (fun k hk => ⟨(h k hk).1, (h k hk).2.1⟩)
    · exact fin [] 7 (by simp) (fun k hk => ⟨(h k hk).1, (h k hk).2.1⟩)
    · exact fin [] e (by simp) (fun k hk => ⟨(h k hk).1, (h k hk).2.1⟩)
end Go.Proofs.Ytkfkghnmbemdiaa.Pure
