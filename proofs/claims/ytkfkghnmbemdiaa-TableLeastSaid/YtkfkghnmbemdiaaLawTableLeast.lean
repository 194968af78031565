/- The row of the statement TableLeast: from its arguments, read as data, to the statement over plain data, by the contracts. No condition. -/
import Derived.Test.YtkfkghnmbemdiaaRows
import Derived.Test.YtkfkghnmbemdiaaFTablex9
import Derived.Test.YtkfkghnmbemdiaaPureTableLeast
import Derived.Test.YtkfkghnmbemdiaaXLift
import Derived.WalkKit
import Derived.ProofKit
import Derived.OpenShut
import Derived.ShutString
import Derived.ChangeOld
import Derived.Below
import Derived.SizedLaws
namespace Go.Proofs.Ytkfkghnmbemdiaa.tableLeast
open Go.ChangeShapes Go.WideShapes Go.ChangeAt Go.RowKit Go.Proofs.YtkfkghnmbemdiaaX Go.Proofs.YtkfkghnmbemdiaaW.PrintWords Go.Proofs.YtkfkghnmbemdiaaW.PrintLast Go.Proofs.YtkfkghnmbemdiaaW.PrintMore Go.Proofs.Ytkfkghnmbemdiaa.FTable
open Go.ChangeMaps (open_string shut_string)
set_option linter.unusedVariables false
set_option linter.unusedSimpArgs false
theorem own : ownKnob Try.prog.godebug = none := by kernel_rfl
theorem laidOut : laidOutB Try.prog = true := by kernel_rfl
set_option maxRecDepth 100000 in
theorem lifted (os : Os) (started : os.Started) (H : Type) (enc : TypeId × Value → H) :
    ReturnsInHanded {} Try.checked os 5 .any (Rows.tableLeastSpec.pre6 enc Try.prog Try.f5 Rows.tableLeastRow.domain false) (Rows.tableLeastSpec.post enc Try.prog Try.f5 false true false false) := by
  refine returnsInHanded_of_change_sized (C := Try.checked) own started (by kernel_rfl) Try.func5
    (ChangeSpec.witness6 (enc := enc) (C := Try.checked) false ⟨#[], #[.agg #[.int .i64 0, .slice none 0 0], .int .i64 0, .int .i64 0], []⟩ 8 (by kernel_rfl) (by kernel_rfl) (by kernel_rfl) (by kernel_rfl)) ?_
  intro W base args ds gs before hval0 hW hcnd hsz0 _
  have hval : ∀ (j : Nat) t v, Try.f5.params[j]? = some t → args[j]? = some v → Value.okWide Try.prog W .any base t v := hval0
  have hW' := hW
  obtain ⟨p, q, hA0, hV, rfl, hfz, hnd⟩ := hW
  have hA : DataW.TrodAll enc Try.prog W 0 (fun _ => true) true Try.f5.params.toList args.toList ds p := hA0
  rw [Try.params5] at hA hval
  obtain ⟨v0, vs0, d0, ds0, p0, q0, hargs, rfl, rfl, h0, r0⟩ := trodAll_cons hA
  obtain ⟨v1, vs1, d1, ds1, p1, q1, rfl, rfl, rfl, h1, r1⟩ := trodAll_cons r0
  obtain ⟨v2, vs2, d2, ds2, p2, q2, rfl, rfl, rfl, h2, r2⟩ := trodAll_cons r1
  obtain ⟨rfl, rfl, rfl⟩ := trodAll_nil r2
  obtain rfl : args = #[v0, v1, v2] := by cases args; simp_all
  obtain ⟨rfl, rfl⟩ := trodVars_none hV
  have k0 := h0
  have lt0 : ∀ x ∈ p0, x.block < W.heap.size := by obtain ⟨m, hm⟩ := k0; exact DataW.trod_lt m _ _ _ hm
  obtain ⟨w0, rfl, _⟩ := okWide_struct Try.underlying24 (hval 0 24 v0 rfl rfl)
  obtain ⟨m0, f0⟩ := h0
  obtain ⟨⟨a0_0, l0_1⟩, ⟨_, _, e0, rfl, ⟨A0_1, c0_1, rfl, hc0_1, hr0_1⟩⟩, ⟨g0_0, g0_1⟩⟩ := (lift_struct Try.underlying24 (by kernel_rfl) (lift_cons rfl (by kernel_rfl) (lift_int Try.underlying3) rfl (lift_last rfl (by kernel_rfl) (lift_slice (d := k46) Try.underlying22 (by kernel_rfl) (lift_iso (fun x : S46 => (x.f0, x.f1, x.f2)) (fun p => (⟨p.1, p.2.1, p.2.2⟩ : S46)) (fun _ => rfl) (lift_struct Try.underlying46 (by kernel_rfl) (lift_cons rfl (by kernel_rfl) (lift_int Try.underlying3) rfl (lift_cons rfl (by kernel_rfl) (lift_int Try.underlying3) rfl (lift_last rfl (by kernel_rfl) (lift_int Try.underlying3)))))))))) _ _ _ _ _ _ _ _ _ f0
  obtain rfl : w0 = #[.int .i64 a0_0, .slice A0_1 l0_1.length c0_1] := by apply Array.toList_inj.1; simpa [Value.cells] using e0
  obtain ⟨a1, rfl, rfl, rfl, g1⟩ := open_int Try.underlying3 (hval 1 3 v1 rfl rfl) h1
  obtain ⟨a2, rfl, rfl, rfl, g2⟩ := open_int Try.underlying3 (hval 2 3 v2 rfl rfl) h2
  clear hA0 hval0 hsz0
  obtain ⟨k_, hk⟩ := Pure.TableLeast a0_0 l0_1 a1 a2 g0_0 g0_1 g1 g2
  refine (FTable.remontoirlaw13_TableLeast.calls k_ a0_0 _ _ l0_1 a1 a2 W hr0_1 hc0_1 hk).mono ?_
  intro e W' hw
  have bel : Below W.heap.size W W' := by first | exact hw.2 | exact hw.2.below
  obtain ⟨rfl, _⟩ := hw
  exact ⟨_, rfl, _, _, _, [], _, [], hW', trodAll_mk1 (shut_bool Try.underlying4 _), (trodAll_cons_mk (Below.trod laidOut (by kernel_rfl) (of_decide_eq_true (by kernel_rfl)) k0 bel lt0) (trodAll_cons_mk (shut_int Try.underlying3 g1) (trodAll_cons_mk (shut_int Try.underlying3 g2) trodAll_mk0))), rfl, bel.frame _, fun h => by cases h⟩
theorem over : Rows.tableLeastRow.holds Try.pinned (OpenSpec.ofChange Rows.tableLeastSpec) :=
  OpenClaim.holds_of_wide 5 Try.f5 rfl rfl rfl rfl rfl rfl rfl ⟨rfl, rfl, rfl, rfl, rfl⟩ rfl rfl rfl rfl rfl (by kernel_rfl) Try.func5 (by kernel_rfl)
    (of_decide_eq_true (by kernel_rfl)) (by unfold Func.isWrapper; first | (rw [if_pos (by decide +kernel)]; kernel_rfl) | (rw [if_neg (by decide +kernel)]; exact ⟨rfl, rfl⟩))
    (fun os started H enc _ => lifted os started H enc)
theorem proved : Rows.TableLeastSaid := over
#print axioms proved
end Go.Proofs.Ytkfkghnmbemdiaa.tableLeast
namespace Go.Proofs.Ytkfkghnmbemdiaa
/-- The row, under a short name, for the claim. -/
theorem tableLeast_holds : Rows.TableLeastSaid := tableLeast.proved
end Go.Proofs.Ytkfkghnmbemdiaa
