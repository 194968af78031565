/- The row of the statement RingPuts: from its arguments, read as data, to the statement over plain data, by the contracts. No condition. -/
import Derived.Test.YteddflcloeelhaaRows
import Derived.Test.YteddflcloeelhaaFRingx9
import Derived.Test.YteddflcloeelhaaPureRingPuts
import Derived.Test.YteddflcloeelhaaXLift
import Derived.WalkKit
import Derived.ProofKit
import Derived.OpenShut
import Derived.ShutString
import Derived.ChangeOld
import Derived.Below
import Derived.SizedLaws
namespace Go.Proofs.Yteddflcloeelhaa.ringPuts
open Go.ChangeShapes Go.WideShapes Go.ChangeAt Go.RowKit Go.Proofs.YteddflcloeelhaaX Go.Proofs.YteddflcloeelhaaW.PrintWords Go.Proofs.YteddflcloeelhaaW.PrintLast Go.Proofs.YteddflcloeelhaaW.PrintMore Go.Proofs.Yteddflcloeelhaa.FRing
open Go.ChangeMaps (open_string shut_string)
set_option linter.unusedVariables false
set_option linter.unusedSimpArgs false
theorem own : ownKnob Try.prog.godebug = none := by kernel_rfl
theorem laidOut : laidOutB Try.prog = true := by kernel_rfl
set_option maxRecDepth 100000 in
theorem lifted (os : Os) (started : os.Started) (H : Type) (enc : TypeId × Value → H) :
    ReturnsInHanded {} Try.checked os 6 .any (Rows.ringPutsSpec.pre6 enc Try.prog Try.f6 Rows.ringPutsRow.domain false) (Rows.ringPutsSpec.post enc Try.prog Try.f6 false true false false) := by
  refine returnsInHanded_of_change_sized (C := Try.checked) own started (by kernel_rfl) Try.func6
    (ChangeSpec.witness6 (enc := enc) (C := Try.checked) false ⟨#[], #[.agg #[.slice none 0 0, .int .i64 0, .int .i64 0], .int .i64 0], []⟩ 8 (by kernel_rfl) (by kernel_rfl) (by kernel_rfl) (by kernel_rfl)) ?_
  intro W base args ds gs before hval0 hW hcnd hsz0 _
  have hval : ∀ (j : Nat) t v, Try.f6.params[j]? = some t → args[j]? = some v → Value.okWide Try.prog W .any base t v := hval0
  have hW' := hW
  obtain ⟨p, q, hA0, hV, rfl, hfz, hnd⟩ := hW
  have hA : DataW.TrodAll enc Try.prog W 0 (fun _ => true) true Try.f6.params.toList args.toList ds p := hA0
  rw [Try.params6] at hA hval
  obtain ⟨v0, vs0, d0, ds0, p0, q0, hargs, rfl, rfl, h0, r0⟩ := trodAll_cons hA
  obtain ⟨v1, vs1, d1, ds1, p1, q1, rfl, rfl, rfl, h1, r1⟩ := trodAll_cons r0
  obtain ⟨rfl, rfl, rfl⟩ := trodAll_nil r1
  obtain rfl : args = #[v0, v1] := by cases args; simp_all
  obtain ⟨rfl, rfl⟩ := trodVars_none hV
  have k0 := h0
  have lt0 : ∀ x ∈ p0, x.block < W.heap.size := by obtain ⟨m, hm⟩ := k0; exact DataW.trod_lt m _ _ _ hm
  obtain ⟨w0, rfl, _⟩ := okWide_struct Try.underlying24 (hval 0 24 v0 rfl rfl)
  obtain ⟨m0, f0⟩ := h0
  obtain ⟨⟨l0_0, a0_1, a0_2⟩, ⟨_, _, e0, ⟨A0_0, c0_0, rfl, hc0_0, hr0_0⟩, ⟨_, _, rfl, rfl, rfl⟩⟩, ⟨g0_0, g0_1, g0_2⟩⟩ := (lift_struct Try.underlying24 (by kernel_rfl) (lift_cons rfl (by kernel_rfl) (lift_slice (d := (Kd.int .i64)) Try.underlying22 (by kernel_rfl) (lift_int Try.underlying3)) rfl (lift_cons rfl (by kernel_rfl) (lift_int Try.underlying3) rfl (lift_last rfl (by kernel_rfl) (lift_int Try.underlying3))))) _ _ _ _ _ _ _ _ _ f0
  obtain rfl : w0 = #[.slice A0_0 l0_0.length c0_0, .int .i64 a0_1, .int .i64 a0_2] := by apply Array.toList_inj.1; simpa [Value.cells] using e0
  obtain ⟨a1, rfl, rfl, rfl, g1⟩ := open_int Try.underlying3 (hval 1 3 v1 rfl rfl) h1
  clear hA0 hval0 hsz0
  obtain ⟨k_, hk⟩ := Pure.RingPuts l0_0 a0_1 a0_2 a1 g0_0 g0_1 g0_2 g1
  refine (FRing.remontoirlaw03_RingPuts.calls k_ _ _ l0_0 a0_1 a0_2 a1 W hr0_0 hc0_0 hk).mono ?_
  intro e W' hw
  have bel : Below W.heap.size W W' := by first | exact hw.2 | exact hw.2.below
  obtain ⟨rfl, _⟩ := hw
  exact ⟨_, rfl, _, _, _, [], _, [], hW', trodAll_mk1 (shut_bool Try.underlying4 _), (trodAll_cons_mk (Below.trod laidOut (by kernel_rfl) (of_decide_eq_true (by kernel_rfl)) k0 bel lt0) (trodAll_cons_mk (shut_int Try.underlying3 g1) trodAll_mk0)), rfl, bel.frame _, fun h => by cases h⟩
theorem over : Rows.ringPutsRow.holds Try.pinned (OpenSpec.ofChange Rows.ringPutsSpec) :=
  OpenClaim.holds_of_wide 6 Try.f6 rfl rfl rfl rfl rfl rfl rfl ⟨rfl, rfl, rfl, rfl, rfl⟩ rfl rfl rfl rfl rfl (by kernel_rfl) Try.func6 (by kernel_rfl)
    (of_decide_eq_true (by kernel_rfl)) (by unfold Func.isWrapper; first | (rw [if_pos (by decide +kernel)]; kernel_rfl) | (rw [if_neg (by decide +kernel)]; exact ⟨rfl, rfl⟩))
    (fun os started H enc _ => lifted os started H enc)
theorem proved : Rows.RingPutsSaid := over
#print axioms proved
end Go.Proofs.Yteddflcloeelhaa.ringPuts
namespace Go.Proofs.Yteddflcloeelhaa
/-- The row, under a short name, for the claim. -/
theorem ringPuts_holds : Rows.RingPutsSaid := ringPuts.proved
end Go.Proofs.Yteddflcloeelhaa
