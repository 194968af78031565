/- A frame that is laid, again and again: for each interface a supply pattern of it. Plain mathematics. No condition. -/
import Derived.Test.YtkfkghnmbemdiaaTFSynthx0
import Derived.Test.YtkfkghnmbemdiaaTFSynthx2
import Derived.Test.YtkfkghnmbemdiaaTFSynthx3
import Derived.Test.YtkfkghnmbemdiaaTFSynthx4
import Derived.Test.YtkfkghnmbemdiaaTFSynthx5
import Derived.Test.YtkfkghnmbemdiaaTFSynthx6
import Derived.Test.YtkfkghnmbemdiaaTFSynthx7
import Derived.Test.YtkfkghnmbemdiaaTFSynthx8
import Derived.Test.YtkfkghnmbemdiaaTFSynthx9
import Derived.Test.YtkfkghnmbemdiaaTFSynthx10
import Derived.Test.YtkfkghnmbemdiaaTFSynthLemEdf
import Derived.Test.YtkfkghnmbemdiaaTSupplyMath
namespace Go.Proofs.Ytkfkghnmbemdiaa.SynthPat
open Go.RowKit Go.Proofs.Ytkfkghnmbemdiaa.FSynth Go.Proofs.YtkfkghnmbemdiaaW.PrintWords Go.Proofs.YtkfkghnmbemdiaaW.PrintLast Go.Proofs.YtkfkghnmbemdiaaW.PrintMore Go.Proofs.Ytkfkghnmbemdiaa.SynthArith Go.Proofs.Ytkfkghnmbemdiaa.SynthLem Go.Proofs.Ytkfkghnmbemdiaa.SynthLay Go.Proofs.Ytkfkghnmbemdiaa.SynthSpec Go.Proofs.Ytkfkghnmbemdiaa.SynthEdf Go.Proofs.Ytkfkghnmbemdiaa.SupplyMath
set_option linter.unusedSimpArgs false
set_option linter.unusedVariables false
/-- Is a tick of the frame that comes again and again somebody's? -/
def Pt (G : List Int) (j : Nat) (i : Nat) : Bool := rd G ((i % G.length : Nat) : Int) == (j : Int)
theorem ct_pt (G : List Int) (j a : Nat) : ∀ n, cnt (fun i => rd G ((a + i : Nat) : Int) == (j : Int)) n = ct G j a n
  | 0 => rfl
  | n + 1 => by
    rw [cnt_succ, ct_pt G j a n, ct]
    simp only [beq_iff_eq]
theorem Rt_of {l : List S54} (h : RtAll l) {j : Nat} (hj : j < l.length) : Rt (Pe l j) (Bu l j) := h j hj
theorem Lg_pt {l : List S54} {fr : Nat} {G : List Int} (L : Laid l fr G) {j : Nat} (hj : j < l.length) : Lg (Pe l j) (Bu l j) (Pt G j) := by
  intro q
  obtain ⟨e, e1, e2⟩ := p_eq L.rt hj
  have hd := L.div j hj
  rw [e] at hd
  obtain ⟨c, hc⟩ := Int.natCast_dvd_natCast.1 hd
  have hp := L.pos
  have hG := L.len
  have c0 : 0 < c := by rcases Nat.eq_zero_or_pos c with z | z; (· subst z; omega); (· exact z)
  show Bu l j ≤ cnt (Pt G j) ((q + 1) * p l j) - cnt (Pt G j) (q * p l j)
  have hlt := Nat.mod_lt q c0
  have hq : (q % c + 1) * p l j ≤ fr := by
    rw [hc, Nat.mul_comm (p l j) c]
    exact Nat.mul_le_mul_right _ hlt
  have ex := exact L hj (q % c) hq
  rw [ct_cnt G j _ _ (by rw [hG]; rw [Nat.add_mul] at hq; omega)] at ex
  rw [Nat.add_mul q, Nat.one_mul, ← cnt_shift]
  have e3 : cnt (fun i => Pt G j (q * p l j + i)) (p l j) = cnt (fun i => rd G ((q % c * p l j + i : Nat) : Int) == (j : Int)) (p l j) := by
    apply cnt_congr
    intro i hi
    unfold Pt
    congr 3
    have h1 := Nat.div_add_mod q c
    have h2 : q * p l j = G.length * (q / c) + q % c * p l j := by
      rw [hG, hc]
      calc q * p l j = (c * (q / c) + q % c) * p l j := by rw [h1]
        _ = p l j * c * (q / c) + q % c * p l j := by rw [Nat.add_mul]; congr 1; rw [Nat.mul_comm (c * (q / c)), Nat.mul_assoc]
    rw [h2, Nat.add_assoc, Nat.mul_add_mod]
    apply Nat.mod_eq_of_lt
    rw [Nat.add_mul, Nat.one_mul] at hq
    omega
  rw [e3, ct_pt, ex]
  exact Int.le_refl _
/-- Any ticks one behind the other have the bound. -/
theorem pt_window {l : List S54} {fr : Nat} {G : List Int} (L : Laid l fr G) {j : Nat} (hj : j < l.length) (a n : Nat) : SB (Pe l j) (Bu l j) n ≤ cnt (Pt G j) (a + n) - cnt (Pt G j) a :=
  window (Rt_of L.rt hj) (Lg_pt L hj) a n
end Go.Proofs.Ytkfkghnmbemdiaa.SynthPat
