/- The statement SynthFrames over plain data: true. No condition. -/
import Derived.Test.YtkfkghnmbemdiaaFSynthLem
import Derived.Test.YtkfkghnmbemdiaaFSynthx7
import Derived.Test.YtkfkghnmbemdiaaFSynthLemSpec
namespace Go.Proofs.Ytkfkghnmbemdiaa.Pure
open Go.RowKit Go.Proofs.Ytkfkghnmbemdiaa.FSynth Go.Proofs.Ytkfkghnmbemdiaa.SynthArith Go.Proofs.Ytkfkghnmbemdiaa.SynthLem Go.Proofs.Ytkfkghnmbemdiaa.SynthLay Go.Proofs.Ytkfkghnmbemdiaa.SynthSpec Go.Proofs.YtkfkghnmbemdiaaW.PrintWords Go.Proofs.YtkfkghnmbemdiaaW.PrintLast Go.Proofs.YtkfkghnmbemdiaaW.PrintMore
set_option linter.unusedSimpArgs false
set_option linter.unusedVariables false
set_option maxRecDepth 100000 in
theorem frames_l0 (K : Nat) (hK : ∀ k, K ≤ k → remontoirlaw12_knows.f k = some true) (l : List S54) (h : RtAll l) (hl : l.length ≤ 4) (fr : Int) (h0 : 0 ≤ fr) (h1 : fr ≤ 240) (S : Int) : ∀ n (i : Nat) (s : Int), l.length = i + n → 0 ≤ s → s ≤ bd i → S = s + shF l fr i n → ∀ k, K + n + 1 ≤ k → remontoirlaw12_SynthFrames.l0 k l fr 0 S fr 0 fr s i = some true
  | 0, i, s, hn, s0, s1, hS, k, hk => by
    obtain ⟨k, rfl⟩ : ∃ k', k = k' + 1 := ⟨k - 1, by omega⟩
    rw [shF, Int.add_zero] at hS
    rw [remontoirlaw12_SynthFrames.l0, if_neg (by omega), if_pos rfl, if_pos rfl, if_pos hS, if_pos rfl, if_pos rfl, hK _ (by omega)]; rfl
  | n + 1, i, s, hn, s0, s1, hS, k, hk => by
    obtain ⟨k, rfl⟩ : ∃ k', k = k' + 1 := ⟨k - 1, by omega⟩
    obtain ⟨a, b, c, d⟩ := sh_one h (i := i) (by omega) h0 h1
    obtain ⟨r1, r2, r3⟩ := h i (by omega)
    have b1 := bd_succ i
    have b2 := bd_le i (by omega)
    rw [remontoirlaw12_SynthFrames.l0, if_pos (by omega), if_pos (by omega), if_neg (show ¬ (rd_T54 l (i : Int)).f0 = 0 from fun q => by have : Pe l i = 0 := q; omega)]
    show remontoirlaw12_SynthFrames.l0 k l fr 0 S fr 0 fr (wrap64 (s + wrap64 (Bu l i * wrap64 (Int.tdiv fr (Pe l i))))) (wrap64 ((i : Int) + 1)) = _
    rw [Int.tdiv_eq_ediv_of_nonneg h0, w64 (n := fr / Pe l i) (by omega) (by omega), Int.mul_comm (Bu l i), w64 (n := fr / Pe l i * Bu l i) (by omega) (by omega), w64 (n := s + _) (by omega) (by omega), w64 (n := (i : Int) + 1) (by omega) (by omega)]
    rw [shF, ← Int.add_assoc] at hS
    exact frames_l0 K hK l h hl fr h0 h1 S n (i + 1) (s + fr / Pe l i * Bu l i) (by omega) (by omega) (by omega) hS k (by omega)
set_option maxRecDepth 100000 in
theorem SynthFrames : remontoirlaw12_SynthFrames.Pure := by
  intro l hl
  obtain ⟨K, hK⟩ := knows_ev
  by_cases hg : l.length > 20
  · exact ⟨K, by unfold remontoirlaw12_SynthFrames.f; rw [if_pos (by omega), hK K (Nat.le_refl _)]; rfl⟩
  · refine ⟨K + 300000, ?_⟩
    unfold remontoirlaw12_SynthFrames.f
    rcases Frame_ev l with ⟨r, h1, h2, h3, h4, h5, h6⟩ | ⟨e, h1, h2⟩
    · obtain ⟨fr, rfl⟩ : ∃ fr : Nat, r = fr := ⟨r.toNat, by omega⟩
      have hf := h6 (K + 300000) (by omega)
      rw [if_neg (by omega), hf.1, Option.bind_some, Share_ev l h1 h2 fr (by omega) _ (by omega) hf.1, Option.bind_some, hf.2, Option.bind_some, if_pos rfl]
      exact frames_l0 K hK l h1 h2 fr (by omega) (by omega) _ l.length 0 0 (by omega) (by omega) (bd_le 0 (by omega)).1 (by omega) _ (by omega)
    · have hf := h2 (K + 300000) (by omega)
      rw [if_neg (by omega), hf.1, Option.bind_some, Share_bad l e (by omega) _ hf.1, Option.bind_some, hf.2, Option.bind_some, if_neg (by dsimp only; omega), if_pos rfl, if_pos rfl, if_pos rfl, if_pos rfl, if_pos rfl, hK _ (by omega)]; rfl
end Go.Proofs.Ytkfkghnmbemdiaa.Pure
