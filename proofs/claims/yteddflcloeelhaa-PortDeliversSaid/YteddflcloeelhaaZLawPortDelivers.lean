/- The row of the statement PortDelivers: from its arguments, read as data, to the statement over plain data, by the contracts. No condition. -/
import Derived.Test.YteddflcloeelhaaRows
import Derived.Test.YteddflcloeelhaaZFDelivx13
import Derived.Test.YteddflcloeelhaaZPurePortDelivers
import Derived.Test.YteddflcloeelhaaZXLift
import Derived.WalkKit
import Derived.ProofKit
import Derived.OpenShut
import Derived.ShutString
import Derived.ChangeOld
import Derived.Below
import Derived.SizedLaws
namespace Go.Proofs.Yteddflcloeelhaa.portDelivers
open Go.ChangeShapes Go.WideShapes Go.ChangeAt Go.RowKit Go.Proofs.YteddflcloeelhaaX Go.Proofs.YteddflcloeelhaaW.PrintWords Go.Proofs.YteddflcloeelhaaW.PrintLast Go.Proofs.YteddflcloeelhaaW.PrintMore Go.Proofs.Yteddflcloeelhaa.FDeliv
open Go.ChangeMaps (open_string shut_string)
set_option linter.unusedVariables false
set_option linter.unusedSimpArgs false
theorem own : ownKnob Try.prog.godebug = none := by kernel_rfl
theorem laidOut : laidOutB Try.prog = true := by kernel_rfl
set_option maxRecDepth 100000 in
theorem lifted (os : Os) (started : os.Started) (H : Type) (enc : TypeId × Value → H) :
    ReturnsInHanded {} Try.checked os 10 .any (Rows.portDeliversSpec.pre6 enc Try.prog Try.f10 Rows.portDeliversRow.domain false) (Rows.portDeliversSpec.post enc Try.prog Try.f10 false true false false) := by
  refine returnsInHanded_of_change_sized (C := Try.checked) own started (by kernel_rfl) Try.func10
    (ChangeSpec.witness6 (enc := enc) (C := Try.checked) false ⟨#[], #[.slice none 0 0], []⟩ 8 (by kernel_rfl) (by kernel_rfl) (by kernel_rfl) (by kernel_rfl)) ?_
  intro W base args ds gs before hval0 hW hcnd hsz0 _
  have hval : ∀ (j : Nat) t v, Try.f10.params[j]? = some t → args[j]? = some v → Value.okWide Try.prog W .any base t v := hval0
  have hW' := hW
  obtain ⟨p, q, hA0, hV, rfl, hfz, hnd⟩ := hW
  have hA : DataW.TrodAll enc Try.prog W 0 (fun _ => true) true Try.f10.params.toList args.toList ds p := hA0
  rw [Try.params10] at hA hval
  obtain ⟨v0, vs0, d0, ds0, p0, q0, hargs, rfl, rfl, h0, r0⟩ := trodAll_cons hA
  obtain ⟨rfl, rfl, rfl⟩ := trodAll_nil r0
  obtain rfl : args = #[v0] := by cases args; simp_all
  obtain ⟨rfl, rfl⟩ := trodVars_none hV
  have k0 := h0
  have lt0 : ∀ x ∈ p0, x.block < W.heap.size := by obtain ⟨m, hm⟩ := k0; exact DataW.trod_lt m _ _ _ hm
  obtain ⟨A0, n0, c0, rfl⟩ := okWide_slice Try.underlying47 (hval 0 47 v0 rfl rfl)
  obtain ⟨m0, f0⟩ := h0
  obtain ⟨l0, ⟨A_, c_, e0, hc0, hr0⟩, g0⟩ := (lift_slice (d := k76) Try.underlying47 (by kernel_rfl) (lift_iso (fun x : S76 => (x.f0, x.f1, x.f2)) (fun p => (⟨p.1, p.2.1, p.2.2⟩ : S76)) (fun _ => rfl) (lift_struct Try.underlying76 (by kernel_rfl) (lift_cons rfl (by kernel_rfl) (lift_iso (fun x : S51 => (x.f0, x.f1, x.f2)) (fun p => (⟨p.1, p.2.1, p.2.2⟩ : S51)) (fun _ => rfl) (lift_struct Try.underlying51 (by kernel_rfl) (lift_cons rfl (by kernel_rfl) (lift_int Try.underlying3) rfl (lift_cons rfl (by kernel_rfl) (lift_int Try.underlying3) rfl (lift_last rfl (by kernel_rfl) (lift_int Try.underlying3)))))) rfl (lift_cons rfl (by kernel_rfl) (lift_iso (fun x : S24 => (x.f0, x.f1, x.f2)) (fun p => (⟨p.1, p.2.1, p.2.2⟩ : S24)) (fun _ => rfl) (lift_struct Try.underlying24 (by kernel_rfl) (lift_cons rfl (by kernel_rfl) (lift_slice (d := (Kd.int .i64)) Try.underlying22 (by kernel_rfl) (lift_int Try.underlying3)) rfl (lift_cons rfl (by kernel_rfl) (lift_int Try.underlying3) rfl (lift_last rfl (by kernel_rfl) (lift_int Try.underlying3)))))) rfl (lift_last rfl (by kernel_rfl) (lift_iso (fun x : S24 => (x.f0, x.f1, x.f2)) (fun p => (⟨p.1, p.2.1, p.2.2⟩ : S24)) (fun _ => rfl) (lift_struct Try.underlying24 (by kernel_rfl) (lift_cons rfl (by kernel_rfl) (lift_slice (d := (Kd.int .i64)) Try.underlying22 (by kernel_rfl) (lift_int Try.underlying3)) rfl (lift_cons rfl (by kernel_rfl) (lift_int Try.underlying3) rfl (lift_last rfl (by kernel_rfl) (lift_int Try.underlying3)))))))))))) _ _ _ _ _ _ _ _ _ f0
  simp only [Value.cells, List.cons.injEq, Value.slice.injEq, and_true] at e0
  obtain ⟨rfl, rfl, rfl⟩ := e0
  clear hA0 hval0 hsz0
  obtain ⟨k_, hk⟩ := Pure.PortDelivers l0 g0
  refine (FDeliv.remontoirlaw18_PortDelivers.calls k_ _ _ l0 W hr0 hc0 hk).mono ?_
  intro e W' hw
  have bel : Below W.heap.size W W' := by first | exact hw.2 | exact hw.2.below
  obtain ⟨rfl, _⟩ := hw
  exact ⟨_, rfl, _, _, _, [], _, [], hW', trodAll_mk1 (shut_bool Try.underlying4 _), (trodAll_cons_mk (Below.trod laidOut (by kernel_rfl) (of_decide_eq_true (by kernel_rfl)) k0 bel lt0) trodAll_mk0), rfl, bel.frame _, fun h => by cases h⟩
theorem over : Rows.portDeliversRow.holds Try.pinned (OpenSpec.ofChange Rows.portDeliversSpec) :=
  OpenClaim.holds_of_wide 10 Try.f10 rfl rfl rfl rfl rfl rfl rfl ⟨rfl, rfl, rfl, rfl, rfl⟩ rfl rfl rfl rfl rfl (by kernel_rfl) Try.func10 (by kernel_rfl)
    (of_decide_eq_true (by kernel_rfl)) (by unfold Func.isWrapper; first | (rw [if_pos (by decide +kernel)]; kernel_rfl) | (rw [if_neg (by decide +kernel)]; exact ⟨rfl, rfl⟩))
    (fun os started H enc _ => lifted os started H enc)
theorem proved : Rows.PortDeliversSaid := over
#print axioms proved
end Go.Proofs.Yteddflcloeelhaa.portDelivers
namespace Go.Proofs.Yteddflcloeelhaa
/-- The row, under a short name, for the claim. -/
theorem portDelivers_holds : Rows.PortDeliversSaid := portDelivers.proved
end Go.Proofs.Yteddflcloeelhaa
