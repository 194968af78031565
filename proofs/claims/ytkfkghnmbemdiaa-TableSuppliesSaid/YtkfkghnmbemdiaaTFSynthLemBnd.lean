/- What the functions of the bound of a supply comes to: lemmas for the statements of layer 12. No condition. -/
import Derived.Test.YtkfkghnmbemdiaaTFSynthx0
import Derived.Test.YtkfkghnmbemdiaaTFSynthx2
import Derived.Test.YtkfkghnmbemdiaaTFSynthx3
import Derived.Test.YtkfkghnmbemdiaaTFSynthx4
import Derived.Test.YtkfkghnmbemdiaaTFSynthx5
import Derived.Test.YtkfkghnmbemdiaaTFSynthx6
import Derived.Test.YtkfkghnmbemdiaaTFSynthx7
import Derived.Test.YtkfkghnmbemdiaaTFSynthx8
import Derived.Test.YtkfkghnmbemdiaaTFSynthx9
import Derived.Test.YtkfkghnmbemdiaaTFSynthx10
import Derived.Test.YtkfkghnmbemdiaaTSupplyMath
namespace Go.Proofs.Ytkfkghnmbemdiaa.SynthBnd
open Go.RowKit Go.Proofs.Ytkfkghnmbemdiaa.FSynth Go.Proofs.YtkfkghnmbemdiaaW.PrintWords Go.Proofs.YtkfkghnmbemdiaaW.PrintLast Go.Proofs.YtkfkghnmbemdiaaW.PrintMore Go.Proofs.Ytkfkghnmbemdiaa.SupplyMath
set_option linter.unusedSimpArgs false
set_option linter.unusedVariables false
theorem w64 {n : Int} (h1 : -9223372036854775808 ≤ n) (h2 : n ≤ 9223372036854775807) : wrap64 n = n := by unfold wrap64; omega
theorem wf64 {a : Int} (h : (Lit.int .i64 a).wf = true) : -9223372036854775808 ≤ a ∧ a ≤ 9223372036854775807 := by
  simp [Lit.wf, IntKind.min, IntKind.max, IntKind.signed, IntKind.bits] at h
  omega
theorem worst_ev (P B tick : Int) (h : Rt P B) (h0 : 0 ≤ tick) : remontoirref09_Worst.f P B tick = some (Worst P B tick) := by
  unfold Rt at h
  unfold remontoirref09_Worst.f Worst
  split
  · rfl
  · rw [if_neg (by omega), Int.tmod_eq_emod_of_nonneg h0, w64 (by omega) (by omega)]
theorem rbound_l0 (P B t : Int) (h : Rt P B) (ht : t ≤ 5000) (d : Nat) : ∀ (k : Nat) (i : Nat), (i : Int) + d = t → d + 1 ≤ k →
    remontoirref09_Bound.l0 k t (cnt (fun i => Worst P B (B + i)) i) (B + i) P B = some (cnt (fun i => Worst P B (B + i)) t.toNat) := by
  have h' := h
  unfold Rt at h'
  induction d with
  | zero =>
    intro k i hi hk
    obtain ⟨k, rfl⟩ : ∃ m, k = m + 1 := ⟨k - 1, by omega⟩
    rw [remontoirref09_Bound.l0, w64 (n := B + t) (by omega) (by omega), if_neg (by omega), show t.toNat = i by omega]
  | succ d ih =>
    intro k i hi hk
    obtain ⟨k, rfl⟩ : ∃ m, k = m + 1 := ⟨k - 1, by omega⟩
    rw [remontoirref09_Bound.l0, w64 (n := B + t) (by omega) (by omega), if_pos (by omega), worst_ev P B _ h (by omega), Option.bind_some]
    have hc := cnt_between (fun i => Worst P B (B + i)) (Nat.zero_le i)
    simp only [cnt] at hc
    have hn := ih k (i + 1) (by omega) (by omega)
    rw [cnt_succ] at hn
    rw [w64 (n := B + i + 1) (by omega) (by omega)]
    rw [show (B + ((i + 1 : Nat) : Int)) = B + i + 1 by omega] at hn
    by_cases hw : Worst P B (B + i) = true
    · rw [if_pos hw, w64 (by omega) (by omega)]
      rw [if_pos hw] at hn
      exact hn
    · rw [if_neg hw]
      rw [if_neg hw, Int.add_zero] at hn
      exact hn
theorem rbound_ev (P B t : Int) (h : Rt P B) (h0 : 0 ≤ t) (ht : t ≤ 5000) (k : Nat) (hk : t.toNat + 1 ≤ k) : remontoirref09_Bound.f k P B t = some (SB P B t) := by
  unfold remontoirref09_Bound.f
  have := rbound_l0 P B t h ht t.toNat k 0 (by omega) hk
  simp only [cnt, Int.natCast_zero, Int.add_zero] at this
  have e := SB_count h t.toNat
  rw [show ((t.toNat : Nat) : Int) = t by omega] at e
  rw [e]
  exact this
end Go.Proofs.Ytkfkghnmbemdiaa.SynthBnd
