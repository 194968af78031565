/- The statement TopAlone is proved, as given. No condition. -/
import Derived.Test.YtmngaagojkihbaaGreatRows
import Derived.Test.YtmngaagojkihbaaGreatZ29
import Derived.WalkKit
import Derived.ProofKit
import Derived.OpenShut
import Derived.ShutString
import Derived.ChangeOld
import Derived.Below
import Derived.SizedLaws
namespace Go.Proofs.YtmngaagojkihbaaGreat.topAlone
open Go.ChangeShapes Go.WideShapes Go.ChangeAt Go.RowKit Go.Proofs.YtmngaagojkihbaaGreatX Go.Proofs.YtmngaagojkihbaaGreatW.PrintWords Go.Proofs.YtmngaagojkihbaaGreatW.PrintLast Go.Proofs.YtmngaagojkihbaaGreatW.PrintMore Go.Proofs.YtmngaagojkihbaaGreat.FTop
open Go.ChangeMaps (open_string shut_string)
set_option linter.unusedVariables false
set_option linter.unusedSimpArgs false
set_option maxRecDepth 100000
theorem own : ownKnob Tryz.prog.godebug = none := by kernel_rfl
theorem laidOut : laidOutB Tryz.prog = true := by kernel_rfl
theorem L89 : ∃ good, Lifts Tryz.prog k89 89 good := ⟨_, lift_iso (fun x : S89 => (x.f0, x.f1, x.f2)) (fun p => (⟨p.1, p.2.1, p.2.2⟩ : S89)) (fun _ => rfl) (lift_struct Tryz.underlying89 (by kernel_rfl) (lift_cons rfl (by kernel_rfl) (lift_int Tryz.underlying3) rfl (lift_cons rfl (by kernel_rfl) (lift_int Tryz.underlying3) rfl (lift_last rfl (by kernel_rfl) (lift_int Tryz.underlying3)))))⟩
theorem L44 : ∃ good, Lifts Tryz.prog k44 44 good := by
  obtain ⟨_, L89⟩ := L89
  exact ⟨_, lift_iso (fun x : S44 => (x.f0, x.f1, x.f2, x.f3)) (fun p => (⟨p.1, p.2.1, p.2.2.1, p.2.2.2⟩ : S44)) (fun _ => rfl) (lift_struct Tryz.underlying44 (by kernel_rfl) (lift_cons rfl (by kernel_rfl) (lift_int Tryz.underlying3) rfl (lift_cons rfl (by kernel_rfl) (lift_int Tryz.underlying3) rfl (lift_cons rfl (by kernel_rfl) (lift_int Tryz.underlying3) rfl (lift_last rfl (by kernel_rfl) (lift_slice (d := k89) Tryz.underlying42 (by kernel_rfl) L89))))))⟩
theorem L46 : ∃ good, Lifts Tryz.prog k46 46 good := by
  obtain ⟨_, L44⟩ := L44
  exact ⟨_, lift_iso (fun x : S46 => (x.f0, x.f1, x.f2, x.f3, x.f4)) (fun p => (⟨p.1, p.2.1, p.2.2.1, p.2.2.2.1, p.2.2.2.2⟩ : S46)) (fun _ => rfl) (lift_struct Tryz.underlying46 (by kernel_rfl) (lift_cons rfl (by kernel_rfl) (lift_int Tryz.underlying3) rfl (lift_cons rfl (by kernel_rfl) (lift_int Tryz.underlying3) rfl (lift_cons rfl (by kernel_rfl) (lift_int Tryz.underlying3) rfl (lift_cons rfl (by kernel_rfl) (lift_int Tryz.underlying3) rfl (lift_last rfl (by kernel_rfl) L44))))))⟩
theorem L41 : ∃ good, Lifts Tryz.prog k41 41 good := by
  obtain ⟨_, L46⟩ := L46
  exact ⟨_, lift_iso (fun x : S41 => x.f0) (fun p => (⟨p⟩ : S41)) (fun _ => rfl) (lift_struct Tryz.underlying41 (by kernel_rfl) (lift_last rfl (by kernel_rfl) (lift_slice (d := k46) Tryz.underlying39 (by kernel_rfl) L46)))⟩
theorem L23 : ∃ good, Lifts Tryz.prog (Kd.slice 41 k41) 23 good := by
  obtain ⟨_, L41⟩ := L41
  exact ⟨_, lift_slice (d := k41) Tryz.underlying23 (by kernel_rfl) L41⟩
set_option maxRecDepth 100000 in
theorem lifted (os : Os) (started : os.Started) (H : Type) (enc : TypeId × Value → H) :
    ReturnsInHanded {} Tryz.checked os 4 .any (Rows.topAloneSpec.pre6 enc Tryz.prog Tryz.f4 Rows.topAloneRow.domain false) (Rows.topAloneSpec.post enc Tryz.prog Tryz.f4 false true false false) := by
  refine returnsInHanded_of_change_sized (C := Tryz.checked) own started (by kernel_rfl) Tryz.func4
    (ChangeSpec.witness6 (enc := enc) (C := Tryz.checked) false ⟨#[], #[.slice none 0 0, .slice none 0 0, .slice none 0 0, .int .i64 0], []⟩ 8 (by kernel_rfl) (by kernel_rfl) (by kernel_rfl) (by kernel_rfl)) ?_
  intro W base args ds gs before hval0 hW hcnd hsz0 _
  have hval : ∀ (j : Nat) t v, Tryz.f4.params[j]? = some t → args[j]? = some v → Value.okWide Tryz.prog W .any base t v := hval0
  have hW' := hW
  obtain ⟨p, q, hA0, hV, rfl, hfz, hnd⟩ := hW
  have hA : DataW.TrodAll enc Tryz.prog W 0 (fun _ => true) true Tryz.f4.params.toList args.toList ds p := hA0
  rw [Tryz.params4] at hA hval
  obtain ⟨v0, vs0, d0, ds0, p0, q0, hargs, rfl, rfl, h0, r0⟩ := trodAll_cons hA
  obtain ⟨v1, vs1, d1, ds1, p1, q1, rfl, rfl, rfl, h1, r1⟩ := trodAll_cons r0
  obtain ⟨v2, vs2, d2, ds2, p2, q2, rfl, rfl, rfl, h2, r2⟩ := trodAll_cons r1
  obtain ⟨v3, vs3, d3, ds3, p3, q3, rfl, rfl, rfl, h3, r3⟩ := trodAll_cons r2
  obtain ⟨rfl, rfl, rfl⟩ := trodAll_nil r3
  obtain rfl : args = #[v0, v1, v2, v3] := by cases args; simp_all
  obtain ⟨rfl, rfl⟩ := trodVars_none hV
  have k0 := h0
  have lt0 : ∀ x ∈ p0, x.block < W.heap.size := by obtain ⟨m, hm⟩ := k0; exact DataW.trod_lt m _ _ _ hm
  obtain ⟨A0, n0, c0, rfl⟩ := okWide_slice Tryz.underlying22 (hval 0 22 v0 rfl rfl)
  obtain ⟨m0, f0⟩ := h0
  obtain ⟨l0, ⟨A_, c_, e0, hc0, hr0⟩, g0⟩ := (lift_slice (d := (Kd.int .u8)) Tryz.underlying22 (by kernel_rfl) (lift_int Tryz.underlying5)) _ _ _ _ _ _ _ _ _ f0
  simp only [Value.cells, List.cons.injEq, Value.slice.injEq, and_true] at e0
  obtain ⟨rfl, rfl, rfl⟩ := e0
  obtain ⟨_, L23⟩ := L23
  have k1 := h1
  have lt1 : ∀ x ∈ p1, x.block < W.heap.size := by obtain ⟨m, hm⟩ := k1; exact DataW.trod_lt m _ _ _ hm
  obtain ⟨A1, n1, c1, rfl⟩ := okWide_slice Tryz.underlying23 (hval 1 23 v1 rfl rfl)
  obtain ⟨m1, f1⟩ := h1
  obtain ⟨l1, ⟨A_, c_, e1, hc1, hr1⟩, -⟩ := L23 _ _ _ _ _ _ _ _ _ f1
  simp only [Value.cells, List.cons.injEq, Value.slice.injEq, and_true] at e1
  obtain ⟨rfl, rfl, rfl⟩ := e1
  have k2 := h2
  have lt2 : ∀ x ∈ p2, x.block < W.heap.size := by obtain ⟨m, hm⟩ := k2; exact DataW.trod_lt m _ _ _ hm
  obtain ⟨A2, n2, c2, rfl⟩ := okWide_slice Tryz.underlying23 (hval 2 23 v2 rfl rfl)
  obtain ⟨m2, f2⟩ := h2
  obtain ⟨l2, ⟨A_, c_, e2, hc2, hr2⟩, -⟩ := L23 _ _ _ _ _ _ _ _ _ f2
  simp only [Value.cells, List.cons.injEq, Value.slice.injEq, and_true] at e2
  obtain ⟨rfl, rfl, rfl⟩ := e2
  obtain ⟨a3, rfl, rfl, rfl, g3⟩ := open_int Tryz.underlying3 (hval 3 3 v3 rfl rfl) h3
  clear hA0 hval0 hsz0
  have hby : ∀ x ∈ l0, 0 ≤ x ∧ x ≤ 255 := fun x hx => by
    have h := g0.2 x hx
    simpa [Lit.wf, IntKind.signed, IntKind.bits, IntKind.min, IntKind.max] using h
  refine (FTop.top_Alone.calls _ _ l0 _ _ l1 _ _ l2 a3 W hr0 hby hr1 hr2 (FTop.aloneP _ _ _ _)).mono ?_
  intro e W' hw
  have bel : Below W.heap.size W W' := by first | exact hw.2 | exact hw.2.below
  obtain ⟨rfl, _⟩ := hw
  exact ⟨_, rfl, _, _, _, [], _, [], hW', trodAll_mk1 (shut_bool Tryz.underlying4 _), (trodAll_cons_mk (Below.trod laidOut (by kernel_rfl) (of_decide_eq_true (by kernel_rfl)) k0 bel lt0) (trodAll_cons_mk (Below.trod laidOut (by kernel_rfl) (of_decide_eq_true (by kernel_rfl)) k1 bel lt1) (trodAll_cons_mk (Below.trod laidOut (by kernel_rfl) (of_decide_eq_true (by kernel_rfl)) k2 bel lt2) (trodAll_cons_mk (shut_int Tryz.underlying3 g3) trodAll_mk0)))), rfl, bel.frame _, fun h => by cases h⟩
theorem over : Rows.topAloneRow.holds Tryz.pinned (OpenSpec.ofChange Rows.topAloneSpec) :=
  OpenClaim.holds_of_wide 4 Tryz.f4 rfl rfl rfl rfl rfl rfl rfl ⟨rfl, rfl, rfl, rfl, rfl⟩ rfl rfl rfl rfl rfl (by kernel_rfl) Tryz.func4 (by kernel_rfl)
    (of_decide_eq_true (by kernel_rfl)) (by unfold Func.isWrapper; first | (rw [if_pos (by decide +kernel)]; kernel_rfl) | (rw [if_neg (by decide +kernel)]; exact ⟨rfl, rfl⟩))
    (fun os started H enc _ => lifted os started H enc)
theorem proved : Rows.TopAloneSaid := over
#print axioms proved
end Go.Proofs.YtmngaagojkihbaaGreat.topAlone
namespace Go.Proofs.YtmngaagojkihbaaGreat
theorem topAlone_holds : Rows.TopAloneSaid := topAlone.proved
end Go.Proofs.YtmngaagojkihbaaGreat
