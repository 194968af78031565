-- Written by the session (wip/tools) for this claim: functions of the program as Lean functions, and their contracts.
import Derived.Test.YtdfokaldjfpkhaaFSpanx0
import Derived.Test.YtdfokaldjfpkhaaFSpanx2
import Derived.Test.YtdfokaldjfpkhaaFSpanx5
import Derived.Test.YtdfokaldjfpkhaaFSpanx6
import Derived.Test.YtdfokaldjfpkhaaFSpanx7
import Derived.Test.YtdfokaldjfpkhaaFSpanx9
import Derived.Test.YtdfokaldjfpkhaaFSpanx10
namespace Go.Proofs.Ytdfokaldjfpkhaa.FSpan
open Go.RowKit Go.Proofs.YtdfokaldjfpkhaaW.PrintWords Go.Proofs.YtdfokaldjfpkhaaW.PrintLast Go.Proofs.YtdfokaldjfpkhaaW.PrintMore
attribute [local go_sem] max2_int min2_int max_two min_two max_three min_three max_four min_four   -- for this text's walks alone
set_option linter.unusedVariables false
set_option linter.unusedSimpArgs false

/-! ### remontoirlaw04_SpanCuts: function 9 -/
def remontoirlaw04_SpanCuts.f (k : Nat) (l0 : List (S29)) (a1 : Int) (a2 : Int) (a3_0 : Int) (a3_1 : Int) (a4 : Int) : Option (Bool) := (remontoirlaw04_great.f l0).bind fun t269 => (if t269 = true then ((remontoirlaw04_knows.f k).bind fun t270 => (some t270)) else ((span_Cut.f k l0 a1 a2).bind fun t271 => ((span_Without.f k l0 a3_0 a3_1).bind fun t274 => ((remontoirref04_In.f k l0 a4).bind fun t277 => ((remontoirref04_In.f k (([(⟨a3_0, a3_1⟩ : S29)] : List (S29))) a4).bind fun t281 => ((remontoirref04_Right.f k t271).bind fun t282 => (if t282 = true then ((remontoirref04_Right.f k t274).bind fun t283 => (if t283 = true then ((remontoirref04_In.f k t271 a4).bind fun t284 => (if t277 = true then (if a4 ≥ a1 then (if (t284 == (decide (a4 < a2))) = true then ((remontoirref04_In.f k t274 a4).bind fun t285 => (if (t285 == (!t281)) = true then ((remontoirlaw04_knows.f k).bind fun t286 => (some t286)) else (some false))) else (some false)) else (if (t284 == false) = true then ((remontoirref04_In.f k t274 a4).bind fun t287 => (if (t287 == (!t281)) = true then ((remontoirlaw04_knows.f k).bind fun t288 => (some t288)) else (some false))) else (some false))) else (if (t284 == false) = true then ((remontoirref04_In.f k t274 a4).bind fun t289 => (if (t289 == false) = true then ((remontoirlaw04_knows.f k).bind fun t290 => (some t290)) else (some false))) else (some false)))) else (some false))) else (some false))))))))
theorem remontoirlaw04_SpanCuts.mono : ∀ a0 a1 a2 a3 a4 a5 k, LeO (remontoirlaw04_SpanCuts.f k a0 a1 a2 a3 a4 a5) (remontoirlaw04_SpanCuts.f (k + 1) a0 a1 a2 a3 a4 a5) := by
  intro a0 a1 a2 a3 a4 a5 k
  unfold remontoirlaw04_SpanCuts.f
  repeat' first
      | (with_reducible exact remontoirlaw04_knows.mono _)
      | (with_reducible exact remontoirref04_In.mono _ _ _)
      | (with_reducible exact remontoirref04_Right.mono _ _)
      | (with_reducible exact span_Cut.mono _ _ _ _)
      | (with_reducible exact span_Without.mono _ _ _ _)
      | (with_reducible exact LeO.refl _)
      | (with_reducible exact LeO.none _)
      | (with_reducible refine LeO.ite ?_ ?_)
      | (with_reducible refine LeO.bind ?_ (fun _ => ?_))
      | exact remontoirlaw04_knows.mono _
      | exact remontoirref04_In.mono _ _ _
      | exact remontoirref04_Right.mono _ _
      | exact span_Cut.mono _ _ _ _
      | exact span_Without.mono _ _ _ _
      | exact LeO.none _
      | refine LeO.ite ?_ ?_
      | refine LeO.bind ?_ (fun _ => ?_)
def remontoirlaw04_SpanCuts.T3 : Bool × List (List Nat × List Nat) := (true, [([], []), ([], []), ([], []), ([0, 1, 2], [0, 1, 2]), ([], []), ([], []), ([4, 5, 3], [4, 5]), ([3, 6, 0, 1, 2, 3], [3]), ([6, 7, 0, 1, 2, 3, 4, 5, 6, 7], [6])])
def remontoirlaw04_SpanCuts.B3 : List Nat := [0, 0, 0, 7, 0, 0, 63, 127, 255]
theorem remontoirlaw04_SpanCuts.tab3 : rtab .any (opsOf Try.f9 3) = remontoirlaw04_SpanCuts.T3 := by kernel_rfl
theorem remontoirlaw04_SpanCuts.bits3 : waitsOk remontoirlaw04_SpanCuts.T3.2 remontoirlaw04_SpanCuts.B3 = true := by kernel_rfl
set_option maxHeartbeats 8000000 in
set_option maxRecDepth 100000 in
theorem remontoirlaw04_SpanCuts.calls (k : Nat) (A0 : Option Addr) (c0 : Nat) (l0 : List (S29)) (a1 : Int) (a2 : Int) (a3_0 : Int) (a3_1 : Int) (a4 : Int) (w : World) (hr0 : Kd.C k29 w A0 l0.length l0) (hc0 : l0.length ≤ c0) (h : remontoirlaw04_SpanCuts.f k l0 a1 a2 a3_0 a3_1 a4 = some true) :
    Calls Try.prog 9 #[.slice A0 l0.length c0, .int .i64 a1, .int .i64 a2, .agg #[.int .i64 a3_0, .int .i64 a3_1], .int .i64 a4] w fun e w' => e = .returned (.bool true) ∧ Below w.heap.size w w' := by
  have hu29 := Try.underlying29
  have HR0 := Aside0.mk hr0
  have HC0 := Aside0.mk hc0
  clear hr0 hc0
  have HB := Aside0.mk (Below.refl w.heap.size w)
  have H : ((remontoirlaw04_great.f l0).bind fun t269 => (if t269 = true then ((remontoirlaw04_knows.f k).bind fun t270 => (some t270)) else ((span_Cut.f k l0 a1 a2).bind fun t271 => ((span_Without.f k l0 a3_0 a3_1).bind fun t274 => ((remontoirref04_In.f k l0 a4).bind fun t277 => ((remontoirref04_In.f k (([(⟨a3_0, a3_1⟩ : S29)] : List (S29))) a4).bind fun t281 => ((remontoirref04_Right.f k t271).bind fun t282 => (if t282 = true then ((remontoirref04_Right.f k t274).bind fun t283 => (if t283 = true then ((remontoirref04_In.f k t271 a4).bind fun t284 => (if t277 = true then (if a4 ≥ a1 then (if (t284 == (decide (a4 < a2))) = true then ((remontoirref04_In.f k t274 a4).bind fun t285 => (if (t285 == (!t281)) = true then ((remontoirlaw04_knows.f k).bind fun t286 => (some t286)) else (some false))) else (some false)) else (if (t284 == false) = true then ((remontoirref04_In.f k t274 a4).bind fun t287 => (if (t287 == (!t281)) = true then ((remontoirlaw04_knows.f k).bind fun t288 => (some t288)) else (some false))) else (some false))) else (if (t284 == false) = true then ((remontoirref04_In.f k t274 a4).bind fun t289 => (if (t289 == false) = true then ((remontoirlaw04_knows.f k).bind fun t290 => (some t290)) else (some false))) else (some false)))) else (some false))) else (some false))))))))) = some true := h
  clear h
  replace H := Option.bind_eq_some_iff.mp H
  obtain ⟨t269, A60, H⟩ := H
  replace H : (if t269 = true then ((remontoirlaw04_knows.f k).bind fun t270 => (some t270)) else ((span_Cut.f k l0 a1 a2).bind fun t271 => ((span_Without.f k l0 a3_0 a3_1).bind fun t274 => ((remontoirref04_In.f k l0 a4).bind fun t277 => ((remontoirref04_In.f k (([(⟨a3_0, a3_1⟩ : S29)] : List (S29))) a4).bind fun t281 => ((remontoirref04_Right.f k t271).bind fun t282 => (if t282 = true then ((remontoirref04_Right.f k t274).bind fun t283 => (if t283 = true then ((remontoirref04_In.f k t271 a4).bind fun t284 => (if t277 = true then (if a4 ≥ a1 then (if (t284 == (decide (a4 < a2))) = true then ((remontoirref04_In.f k t274 a4).bind fun t285 => (if (t285 == (!t281)) = true then ((remontoirlaw04_knows.f k).bind fun t286 => (some t286)) else (some false))) else (some false)) else (if (t284 == false) = true then ((remontoirref04_In.f k t274 a4).bind fun t287 => (if (t287 == (!t281)) = true then ((remontoirlaw04_knows.f k).bind fun t288 => (some t288)) else (some false))) else (some false))) else (if (t284 == false) = true then ((remontoirref04_In.f k t274 a4).bind fun t289 => (if (t289 == false) = true then ((remontoirlaw04_knows.f k).bind fun t290 => (some t290)) else (some false))) else (some false)))) else (some false))) else (some false)))))))) = some true := H
  have A6 := Aside0.mk A60
  clear A60
  by_cases c7 : t269 = true
  · subst c7
    have H1 : ((remontoirlaw04_knows.f k).bind fun t270 => (some t270)) = some true := by rw [if_pos rfl] at H; exact H
    clear H
    have H := H1
    clear H1
    replace H := Option.bind_eq_some_iff.mp H
    obtain ⟨t270, A80, H⟩ := H
    replace H : (some t270) = some true := H
    have A8 := Aside0.mk A80
    clear A80
    have HR_ := Aside0.mk (Option.some.inj H)
    clear H
    go_enter Try.func9, Try.ntmps9
    go_wp2_with (first | ((with_reducible refine gate_dst (N := 8) rfl ?_); refine box_event ?hg (N := 8) ?hd (cs := #[.int .i64 a3_0, .int .i64 a3_1]) (t := 29) ?hr ?_; (case hd => rfl); (case hg => rfl); (case hr => first | (go_simp; done) | (go_simp; rfl)); intro gb268 hg w9 hbox hb; have n0_ := Aside0.mk (below_step (by repeat (first | (with_reducible first | exact HB.out | apply below_alloc | apply pw_below_drewN | apply below_drew1) | exact HB.out)) hb); have n1_ := Aside0.mk (hbox); have n2_ := Aside0.mk ((by rw [hg]; exact (below_size (by repeat (first | (with_reducible first | exact HB.out | apply below_alloc | apply pw_below_drewN | apply below_drew1) | exact HB.out))) : w.heap.size ≤ gb268)); have n3_ := Aside0.mk ((by rw [hg]; exact (below_size (by repeat (first | (with_reducible first | exact HB.out | apply below_alloc | apply pw_below_drewN | apply below_drew1) | exact HB.out))) : w.heap.size ≤ gb268)); clear HB; have HB := n0_; have BK268 := n1_; have GW268 := n2_; have GE268 := n3_; clear n0_ n1_ n2_ n3_; clear hb hbox hg) | ((with_reducible refine gate_callee (f := 13) rfl ?_); refine goesL_ (some 16) rfl rfl Try.func13 (by kernel_rfl) rfl #[.slice A0 l0.length c0] rfl (by (try simp only [List.map_toArray, List.map_cons, List.map_nil]); first | done | rfl | (simp only [List.length_drop, List.length_take]; rfl)) ?_; (with_reducible refine (remontoirlaw04_great.calls _ _ l0 true _ ?side1 ?side2 A6.out).mono ?_); (case side1 => repeat (first | exact (Kd.C_below HR0.out HB.out) | (with_reducible refine Kd.C_alloc ?_ _) | (with_reducible refine Kd.C_drewN ?_ _) | (with_reducible refine Kd.C_drew ?_))); (case side2 => exact HC0.out); rintro e w' ⟨rfl, ⟨nd, rfl⟩⟩; refine ⟨_, rfl, ?_⟩) | ((with_reducible refine gate_callee (f := 14) rfl ?_); refine goesL_ (some 17) rfl rfl Try.func14 (by kernel_rfl) rfl #[] rfl (by (try simp only [List.map_toArray, List.map_cons, List.map_nil]); first | done | rfl | (simp only [List.length_drop, List.length_take]; rfl)) ?_; (with_reducible refine (remontoirlaw04_knows.calls k  t270 _ A8.out).mono ?_); rintro e w10 ⟨rfl, hb⟩; refine ⟨_, rfl, ?_⟩; have n0_ := Aside0.mk (blk_below (g := gb268) (o := .cells #[.int .i64 a3_0, .int .i64 a3_1] 29 (0, 0)) (by (with_reducible repeat (first | refine blk_drewN ?_ _ | refine blk_drew ?_ | refine blk_alloc ?_ _)); exact BK268.out) hb); have n1_ := Aside0.mk (below_step (by repeat (first | (with_reducible first | exact HB.out | apply below_alloc | apply pw_below_drewN | apply below_drew1 | refine below_set ?_ GE268.out) | exact HB.out)) hb); clear BK268; clear HB; have BK268 := n0_; have HB := n1_; clear n0_ n1_; (try clear hb); (try clear hb2); (try clear hk); (try clear hi)))
    go_ret
    exact ⟨by first | rfl | (rw [HR_.out] <;> rfl) | (simp [errW_none, errW_some] <;> rfl) | (simp [*, errW_none, errW_some] <;> rfl), by repeat (first | (with_reducible first | exact HB.out | apply below_alloc | apply pw_below_drewN | apply below_drew1 | refine below_set ?_ GE268.out) | exact HB.out)⟩
  · replace c7 := Bool.eq_false_iff.mpr c7
    subst c7
    have H1 : ((span_Cut.f k l0 a1 a2).bind fun t271 => ((span_Without.f k l0 a3_0 a3_1).bind fun t274 => ((remontoirref04_In.f k l0 a4).bind fun t277 => ((remontoirref04_In.f k (([(⟨a3_0, a3_1⟩ : S29)] : List (S29))) a4).bind fun t281 => ((remontoirref04_Right.f k t271).bind fun t282 => (if t282 = true then ((remontoirref04_Right.f k t274).bind fun t283 => (if t283 = true then ((remontoirref04_In.f k t271 a4).bind fun t284 => (if t277 = true then (if a4 ≥ a1 then (if (t284 == (decide (a4 < a2))) = true then ((remontoirref04_In.f k t274 a4).bind fun t285 => (if (t285 == (!t281)) = true then ((remontoirlaw04_knows.f k).bind fun t286 => (some t286)) else (some false))) else (some false)) else (if (t284 == false) = true then ((remontoirref04_In.f k t274 a4).bind fun t287 => (if (t287 == (!t281)) = true then ((remontoirlaw04_knows.f k).bind fun t288 => (some t288)) else (some false))) else (some false))) else (if (t284 == false) = true then ((remontoirref04_In.f k t274 a4).bind fun t289 => (if (t289 == false) = true then ((remontoirlaw04_knows.f k).bind fun t290 => (some t290)) else (some false))) else (some false)))) else (some false))) else (some false))))))) = some true := by rw [if_neg (show ¬ (false = true) by decide)] at H; exact H
    clear H
    have H := H1
    clear H1
    replace H := Option.bind_eq_some_iff.mp H
    obtain ⟨t271, A110, H⟩ := H
    replace H : ((span_Without.f k l0 a3_0 a3_1).bind fun t274 => ((remontoirref04_In.f k l0 a4).bind fun t277 => ((remontoirref04_In.f k (([(⟨a3_0, a3_1⟩ : S29)] : List (S29))) a4).bind fun t281 => ((remontoirref04_Right.f k t271).bind fun t282 => (if t282 = true then ((remontoirref04_Right.f k t274).bind fun t283 => (if t283 = true then ((remontoirref04_In.f k t271 a4).bind fun t284 => (if t277 = true then (if a4 ≥ a1 then (if (t284 == (decide (a4 < a2))) = true then ((remontoirref04_In.f k t274 a4).bind fun t285 => (if (t285 == (!t281)) = true then ((remontoirlaw04_knows.f k).bind fun t286 => (some t286)) else (some false))) else (some false)) else (if (t284 == false) = true then ((remontoirref04_In.f k t274 a4).bind fun t287 => (if (t287 == (!t281)) = true then ((remontoirlaw04_knows.f k).bind fun t288 => (some t288)) else (some false))) else (some false))) else (if (t284 == false) = true then ((remontoirref04_In.f k t274 a4).bind fun t289 => (if (t289 == false) = true then ((remontoirlaw04_knows.f k).bind fun t290 => (some t290)) else (some false))) else (some false)))) else (some false))) else (some false)))))) = some true := H
    have A11 := Aside0.mk A110
    clear A110
    replace H := Option.bind_eq_some_iff.mp H
    obtain ⟨t274, A120, H⟩ := H
    replace H : ((remontoirref04_In.f k l0 a4).bind fun t277 => ((remontoirref04_In.f k (([(⟨a3_0, a3_1⟩ : S29)] : List (S29))) a4).bind fun t281 => ((remontoirref04_Right.f k t271).bind fun t282 => (if t282 = true then ((remontoirref04_Right.f k t274).bind fun t283 => (if t283 = true then ((remontoirref04_In.f k t271 a4).bind fun t284 => (if t277 = true then (if a4 ≥ a1 then (if (t284 == (decide (a4 < a2))) = true then ((remontoirref04_In.f k t274 a4).bind fun t285 => (if (t285 == (!t281)) = true then ((remontoirlaw04_knows.f k).bind fun t286 => (some t286)) else (some false))) else (some false)) else (if (t284 == false) = true then ((remontoirref04_In.f k t274 a4).bind fun t287 => (if (t287 == (!t281)) = true then ((remontoirlaw04_knows.f k).bind fun t288 => (some t288)) else (some false))) else (some false))) else (if (t284 == false) = true then ((remontoirref04_In.f k t274 a4).bind fun t289 => (if (t289 == false) = true then ((remontoirlaw04_knows.f k).bind fun t290 => (some t290)) else (some false))) else (some false)))) else (some false))) else (some false))))) = some true := H
    have A12 := Aside0.mk A120
    clear A120
    replace H := Option.bind_eq_some_iff.mp H
    obtain ⟨t277, A130, H⟩ := H
    replace H : ((remontoirref04_In.f k (([(⟨a3_0, a3_1⟩ : S29)] : List (S29))) a4).bind fun t281 => ((remontoirref04_Right.f k t271).bind fun t282 => (if t282 = true then ((remontoirref04_Right.f k t274).bind fun t283 => (if t283 = true then ((remontoirref04_In.f k t271 a4).bind fun t284 => (if t277 = true then (if a4 ≥ a1 then (if (t284 == (decide (a4 < a2))) = true then ((remontoirref04_In.f k t274 a4).bind fun t285 => (if (t285 == (!t281)) = true then ((remontoirlaw04_knows.f k).bind fun t286 => (some t286)) else (some false))) else (some false)) else (if (t284 == false) = true then ((remontoirref04_In.f k t274 a4).bind fun t287 => (if (t287 == (!t281)) = true then ((remontoirlaw04_knows.f k).bind fun t288 => (some t288)) else (some false))) else (some false))) else (if (t284 == false) = true then ((remontoirref04_In.f k t274 a4).bind fun t289 => (if (t289 == false) = true then ((remontoirlaw04_knows.f k).bind fun t290 => (some t290)) else (some false))) else (some false)))) else (some false))) else (some false)))) = some true := H
    have A13 := Aside0.mk A130
    clear A130
    obtain ⟨y278, hy278⟩ : ∃ y_ : List (S29), y_ = (([(⟨a3_0, a3_1⟩ : S29)] : List (S29))) := ⟨_, rfl⟩
    replace H : ((remontoirref04_In.f k y278 a4).bind fun t281 => ((remontoirref04_Right.f k t271).bind fun t282 => (if t282 = true then ((remontoirref04_Right.f k t274).bind fun t283 => (if t283 = true then ((remontoirref04_In.f k t271 a4).bind fun t284 => (if t277 = true then (if a4 ≥ a1 then (if (t284 == (decide (a4 < a2))) = true then ((remontoirref04_In.f k t274 a4).bind fun t285 => (if (t285 == (!t281)) = true then ((remontoirlaw04_knows.f k).bind fun t286 => (some t286)) else (some false))) else (some false)) else (if (t284 == false) = true then ((remontoirref04_In.f k t274 a4).bind fun t287 => (if (t287 == (!t281)) = true then ((remontoirlaw04_knows.f k).bind fun t288 => (some t288)) else (some false))) else (some false))) else (if (t284 == false) = true then ((remontoirref04_In.f k t274 a4).bind fun t289 => (if (t289 == false) = true then ((remontoirlaw04_knows.f k).bind fun t290 => (some t290)) else (some false))) else (some false)))) else (some false))) else (some false)))) = some true := by first | (rw [hy278]; with_reducible exact H) | (have H2_ := (Option.bind_some _ _).symm.trans H; rw [hy278]; with_reducible exact H2_) | (have H2_ := (Option.bind_some _ _).symm.trans H; with_reducible exact H2_) | with_reducible exact H | (rw [hy278]; exact H) | exact H
    have Ny278 := Aside0.mk hy278
    clear hy278
    replace H := Option.bind_eq_some_iff.mp H
    obtain ⟨t281, A140, H⟩ := H
    replace H : ((remontoirref04_Right.f k t271).bind fun t282 => (if t282 = true then ((remontoirref04_Right.f k t274).bind fun t283 => (if t283 = true then ((remontoirref04_In.f k t271 a4).bind fun t284 => (if t277 = true then (if a4 ≥ a1 then (if (t284 == (decide (a4 < a2))) = true then ((remontoirref04_In.f k t274 a4).bind fun t285 => (if (t285 == (!t281)) = true then ((remontoirlaw04_knows.f k).bind fun t286 => (some t286)) else (some false))) else (some false)) else (if (t284 == false) = true then ((remontoirref04_In.f k t274 a4).bind fun t287 => (if (t287 == (!t281)) = true then ((remontoirlaw04_knows.f k).bind fun t288 => (some t288)) else (some false))) else (some false))) else (if (t284 == false) = true then ((remontoirref04_In.f k t274 a4).bind fun t289 => (if (t289 == false) = true then ((remontoirlaw04_knows.f k).bind fun t290 => (some t290)) else (some false))) else (some false)))) else (some false))) else (some false))) = some true := H
    have A14 := Aside0.mk A140
    clear A140
    replace H := Option.bind_eq_some_iff.mp H
    obtain ⟨t282, A150, H⟩ := H
    replace H : (if t282 = true then ((remontoirref04_Right.f k t274).bind fun t283 => (if t283 = true then ((remontoirref04_In.f k t271 a4).bind fun t284 => (if t277 = true then (if a4 ≥ a1 then (if (t284 == (decide (a4 < a2))) = true then ((remontoirref04_In.f k t274 a4).bind fun t285 => (if (t285 == (!t281)) = true then ((remontoirlaw04_knows.f k).bind fun t286 => (some t286)) else (some false))) else (some false)) else (if (t284 == false) = true then ((remontoirref04_In.f k t274 a4).bind fun t287 => (if (t287 == (!t281)) = true then ((remontoirlaw04_knows.f k).bind fun t288 => (some t288)) else (some false))) else (some false))) else (if (t284 == false) = true then ((remontoirref04_In.f k t274 a4).bind fun t289 => (if (t289 == false) = true then ((remontoirlaw04_knows.f k).bind fun t290 => (some t290)) else (some false))) else (some false)))) else (some false))) else (some false)) = some true := H
    have A15 := Aside0.mk A150
    clear A150
    by_cases c16 : t282 = true
    · subst c16
      have H1 : ((remontoirref04_Right.f k t274).bind fun t283 => (if t283 = true then ((remontoirref04_In.f k t271 a4).bind fun t284 => (if t277 = true then (if a4 ≥ a1 then (if (t284 == (decide (a4 < a2))) = true then ((remontoirref04_In.f k t274 a4).bind fun t285 => (if (t285 == (!t281)) = true then ((remontoirlaw04_knows.f k).bind fun t286 => (some t286)) else (some false))) else (some false)) else (if (t284 == false) = true then ((remontoirref04_In.f k t274 a4).bind fun t287 => (if (t287 == (!t281)) = true then ((remontoirlaw04_knows.f k).bind fun t288 => (some t288)) else (some false))) else (some false))) else (if (t284 == false) = true then ((remontoirref04_In.f k t274 a4).bind fun t289 => (if (t289 == false) = true then ((remontoirlaw04_knows.f k).bind fun t290 => (some t290)) else (some false))) else (some false)))) else (some false))) = some true := by rw [if_pos rfl] at H; exact H
      clear H
      have H := H1
      clear H1
      replace H := Option.bind_eq_some_iff.mp H
      obtain ⟨t283, A170, H⟩ := H
      replace H : (if t283 = true then ((remontoirref04_In.f k t271 a4).bind fun t284 => (if t277 = true then (if a4 ≥ a1 then (if (t284 == (decide (a4 < a2))) = true then ((remontoirref04_In.f k t274 a4).bind fun t285 => (if (t285 == (!t281)) = true then ((remontoirlaw04_knows.f k).bind fun t286 => (some t286)) else (some false))) else (some false)) else (if (t284 == false) = true then ((remontoirref04_In.f k t274 a4).bind fun t287 => (if (t287 == (!t281)) = true then ((remontoirlaw04_knows.f k).bind fun t288 => (some t288)) else (some false))) else (some false))) else (if (t284 == false) = true then ((remontoirref04_In.f k t274 a4).bind fun t289 => (if (t289 == false) = true then ((remontoirlaw04_knows.f k).bind fun t290 => (some t290)) else (some false))) else (some false)))) else (some false)) = some true := H
      have A17 := Aside0.mk A170
      clear A170
      by_cases c18 : t283 = true
      · subst c18
        have H1 : ((remontoirref04_In.f k t271 a4).bind fun t284 => (if t277 = true then (if a4 ≥ a1 then (if (t284 == (decide (a4 < a2))) = true then ((remontoirref04_In.f k t274 a4).bind fun t285 => (if (t285 == (!t281)) = true then ((remontoirlaw04_knows.f k).bind fun t286 => (some t286)) else (some false))) else (some false)) else (if (t284 == false) = true then ((remontoirref04_In.f k t274 a4).bind fun t287 => (if (t287 == (!t281)) = true then ((remontoirlaw04_knows.f k).bind fun t288 => (some t288)) else (some false))) else (some false))) else (if (t284 == false) = true then ((remontoirref04_In.f k t274 a4).bind fun t289 => (if (t289 == false) = true then ((remontoirlaw04_knows.f k).bind fun t290 => (some t290)) else (some false))) else (some false)))) = some true := by rw [if_pos rfl] at H; exact H
        clear H
        have H := H1
        clear H1
        replace H := Option.bind_eq_some_iff.mp H
        obtain ⟨t284, A190, H⟩ := H
        replace H : (if t277 = true then (if a4 ≥ a1 then (if (t284 == (decide (a4 < a2))) = true then ((remontoirref04_In.f k t274 a4).bind fun t285 => (if (t285 == (!t281)) = true then ((remontoirlaw04_knows.f k).bind fun t286 => (some t286)) else (some false))) else (some false)) else (if (t284 == false) = true then ((remontoirref04_In.f k t274 a4).bind fun t287 => (if (t287 == (!t281)) = true then ((remontoirlaw04_knows.f k).bind fun t288 => (some t288)) else (some false))) else (some false))) else (if (t284 == false) = true then ((remontoirref04_In.f k t274 a4).bind fun t289 => (if (t289 == false) = true then ((remontoirlaw04_knows.f k).bind fun t290 => (some t290)) else (some false))) else (some false))) = some true := H
        have A19 := Aside0.mk A190
        clear A190
        by_cases c20 : t277 = true
        · subst c20
          have H1 : (if a4 ≥ a1 then (if (t284 == (decide (a4 < a2))) = true then ((remontoirref04_In.f k t274 a4).bind fun t285 => (if (t285 == (!t281)) = true then ((remontoirlaw04_knows.f k).bind fun t286 => (some t286)) else (some false))) else (some false)) else (if (t284 == false) = true then ((remontoirref04_In.f k t274 a4).bind fun t287 => (if (t287 == (!t281)) = true then ((remontoirlaw04_knows.f k).bind fun t288 => (some t288)) else (some false))) else (some false))) = some true := by rw [if_pos rfl] at H; exact H
          clear H
          have H := H1
          clear H1
          by_cases c21 : a4 ≥ a1
          · rw [if_pos c21] at H
            have c21b0 : decide (a1 ≤ a4) = true := decide_eq_true c21
            clear c21
            by_cases c22 : (t284 == (decide (a4 < a2))) = true
            · rw [if_pos c22] at H
              have c22b0 : (t284 == (decide (a4 < a2))) = true := c22
              (try (have c22b1 : decide (t284 = (decide (a4 < a2))) = true := by simpa using c22))
              (try (have c22b2 : (t284 == (decide (a4 < a2))) = true := by simpa using c22))
              clear c22
              replace H := Option.bind_eq_some_iff.mp H
              obtain ⟨t285, A230, H⟩ := H
              replace H : (if (t285 == (!t281)) = true then ((remontoirlaw04_knows.f k).bind fun t286 => (some t286)) else (some false)) = some true := H
              have A23 := Aside0.mk A230
              clear A230
              by_cases c24 : (t285 == (!t281)) = true
              · rw [if_pos c24] at H
                have c24b0 : (t285 == (!t281)) = true := c24
                (try (have c24b1 : decide (t285 = (!t281)) = true := by simpa using c24))
                (try (have c24b2 : (t285 == (!t281)) = true := by simpa using c24))
                clear c24
                replace H := Option.bind_eq_some_iff.mp H
                obtain ⟨t286, A250, H⟩ := H
                replace H : (some t286) = some true := H
                have A25 := Aside0.mk A250
                clear A250
                have HR_ := Aside0.mk (Option.some.inj H)
                clear H
                go_enter Try.func9, Try.ntmps9
                try go_wp2_with (first | ((with_reducible refine gate_dst (N := 8) rfl ?_); refine box_event ?hg (N := 8) ?hd (cs := #[.int .i64 a3_0, .int .i64 a3_1]) (t := 29) ?hr ?_; (case hd => rfl); (case hg => rfl); (case hr => first | (go_simp; done) | (go_simp; rfl)); intro gb268 hg w26 hbox hb; have n0_ := Aside0.mk (below_step (by repeat (first | (with_reducible first | exact HB.out | apply below_alloc | apply pw_below_drewN | apply below_drew1) | exact HB.out)) hb); have n1_ := Aside0.mk (hbox); have n2_ := Aside0.mk ((by rw [hg]; exact (below_size (by repeat (first | (with_reducible first | exact HB.out | apply below_alloc | apply pw_below_drewN | apply below_drew1) | exact HB.out))) : w.heap.size ≤ gb268)); have n3_ := Aside0.mk ((by rw [hg]; exact (below_size (by repeat (first | (with_reducible first | exact HB.out | apply below_alloc | apply pw_below_drewN | apply below_drew1) | exact HB.out))) : w.heap.size ≤ gb268)); clear HB; have HB := n0_; have BK268 := n1_; have GW268 := n2_; have GE268 := n3_; clear n0_ n1_ n2_ n3_; clear hb hbox hg) | ((with_reducible refine gate_callee (f := 13) rfl ?_); refine goesL_ (some 16) rfl rfl Try.func13 (by kernel_rfl) rfl #[.slice A0 l0.length c0] rfl (by (try simp only [List.map_toArray, List.map_cons, List.map_nil]); first | done | rfl | (simp only [List.length_drop, List.length_take]; rfl)) ?_; (with_reducible refine (remontoirlaw04_great.calls _ _ l0 false _ ?side1 ?side2 A6.out).mono ?_); (case side1 => repeat (first | exact (Kd.C_below HR0.out HB.out) | (with_reducible refine Kd.C_alloc ?_ _) | (with_reducible refine Kd.C_drewN ?_ _) | (with_reducible refine Kd.C_drew ?_))); (case side2 => exact HC0.out); rintro e w' ⟨rfl, ⟨nd, rfl⟩⟩; refine ⟨_, rfl, ?_⟩))
                (try (rw [drewN_self w26]; generalize hq_ : World.drewN w26 _ = w26; have n0_ : Aside0 (w26.heap[gb268]? = some (.cells #[.int .i64 a3_0, .int .i64 a3_1] 29 (0, 0))) := ⟨by rw [← hq_]; exact (by (with_reducible repeat (first | refine blk_drewN ?_ _ | refine blk_drew ?_ | refine blk_alloc ?_ _)); exact BK268.out)⟩; have n1_ : Aside0 (Below w.heap.size w w26) := ⟨by rw [← hq_]; exact (by repeat (first | (with_reducible first | exact HB.out | apply below_alloc | apply pw_below_drewN | apply below_drew1 | refine below_set ?_ GE268.out) | exact HB.out))⟩; clear BK268 HB hq_; have BK268 := n0_; have HB := n1_; clear n0_ n1_))
                have n0_ := Aside0.mk (blk_drew BK268.out)
                have n1_ := Aside0.mk (below_drew1 HB.out)
                clear BK268
                clear HB
                have BK268 := n0_
                have HB := n1_
                clear n0_ n1_
                refine start_ (n := 9) (S := fun w' => w'.cell? ⟨gb268, 0, none⟩ = some (.int .i64 a3_0) ∧ w'.cell? ⟨gb268, 1, none⟩ = some (.int .i64 a3_1)) (ds := []) #[false, false, false, false, false, false, false, false, false] (by kernel_rfl) rfl rfl ⟨(blk_cell BK268.out 0).trans rfl, (blk_cell BK268.out 1).trans rfl⟩ (fun hHeld => ?_); refine with_tabW remontoirlaw04_SpanCuts.tab3 remontoirlaw04_SpanCuts.bits3 (fun HT_ HW_ => ?_)
                generalize w26.drew = w27 at BK268 HB hHeld ⊢
                refine pure_ (i := 0) (N := some 18) (v := ?_) (a' := ?_) #[true, false, false, false, false, false, false, false, false] rfl rfl (any_of HT_.out (by kernel_rfl)) (fun _ _ _ h => h) (Or.inl ⟨by rfl, ?_⟩) ?_ ?_
                rotate_left
                · intro w'
                  go_simp
                  with_reducible rfl
                rotate_left
                · simp only [Act.put, List.setIfInBounds_toArray, List.set_cons_zero, List.set_cons_succ, i64_w, i32_w]
                  rfl
                refine pure_ (i := 1) (N := some 19) (v := ?_) (a' := ?_) #[true, true, false, false, false, false, false, false, false] rfl rfl (any_of HT_.out (by kernel_rfl)) (fun _ _ _ h => h) (Or.inl ⟨by rfl, ?_⟩) ?_ ?_
                rotate_left
                · intro w'
                  go_simp
                  with_reducible rfl
                rotate_left
                · simp only [Act.put, List.setIfInBounds_toArray, List.set_cons_zero, List.set_cons_succ, i64_w, i32_w]
                  rfl
                refine pure_ (i := 2) (N := some 20) (v := ?_) (a' := ?_) #[true, true, true, false, false, false, false, false, false] rfl rfl (any_of HT_.out (by kernel_rfl)) (fun _ _ _ h => h) (Or.inl ⟨by rfl, ?_⟩) ?_ ?_
                rotate_left
                · intro w'
                  go_simp
                  with_reducible rfl
                rotate_left
                · simp only [Act.put, List.setIfInBounds_toArray, List.set_cons_zero, List.set_cons_succ, i64_w, i32_w]
                  rfl
                refine pure_ (i := 4) (N := some 22) (v := ?_) (a' := ?_) #[true, true, true, false, true, false, false, false, false] rfl rfl (any_of HT_.out (by kernel_rfl)) (fun _ _ _ h => h) (Or.inl ⟨by rfl, ?_⟩) ?_ ?_
                rotate_left
                · intro w'
                  go_simp
                  with_reducible rfl
                rotate_left
                · simp only [Act.put, List.setIfInBounds_toArray, List.set_cons_zero, List.set_cons_succ, i64_w, i32_w]
                  rfl
                refine take_ (i := 5) (N := some 23) (v := ?_) (a' := ?_) #[true, true, true, false, true, true, false, false, false] rfl rfl (take_ofW HT_.out HW_.out (by kernel_rfl)) (fun _ _ _ h => h) (Or.inl ⟨by rfl, ?_⟩) hHeld ?_ ?_
                rotate_left
                · rintro w' ⟨s0, s1⟩
                  go_simp
                  with_reducible rfl
                rotate_left
                · simp only [Act.put, List.setIfInBounds_toArray, List.set_cons_zero, List.set_cons_succ, i64_w, i32_w]
                  rfl
                refine one_ (i := 3) (N := some 21) #[true, true, true, true, true, true, false, false, false] rfl rfl (one_of HT_.out (by kernel_rfl)) (by decide) (fun K hK => ?_)
                refine goes_ Try.func23 (by kernel_rfl) rfl #[.slice A0 l0.length c0, .int .i64 a1, .int .i64 a2] (by rfl) rfl rfl (by (try simp only [List.map_toArray, List.map_cons, List.map_nil]); first | done | rfl | (simp only [List.length_drop, List.length_take]; rfl)) ?_
                with_reducible refine (span_Cut.calls k _ _ l0 a1 a2 t271 _ ?side1 ?side2 A11.out).mono ?_
                (case side1 => repeat (first | exact (Kd.C_below HR0.out HB.out) | (with_reducible refine Kd.C_alloc ?_ _) | (with_reducible refine Kd.C_drewN ?_ _) | (with_reducible refine Kd.C_drew ?_)))
                (case side2 => exact HC0.out)
                rintro e w28 ⟨v272, rfl, ho0, hb⟩
                refine ⟨_, rfl, ?_⟩
                have n0_ := Aside0.mk (Kd.R_lower (Kd.R_newB ho0 (g := gb268) (o := .cells #[.int .i64 a3_0, .int .i64 a3_1] 29 (0, 0)) (by (with_reducible repeat (first | refine blk_drewN ?_ _ | refine blk_drew ?_ | refine blk_alloc ?_ _)); exact BK268.out)) (below_size (by repeat (first | (with_reducible first | exact HB.out | apply below_alloc | apply pw_below_drewN | apply below_drew1 | refine below_set ?_ GE268.out) | exact HB.out))))
                have n1_ := Aside0.mk (blk_below (g := gb268) (o := .cells #[.int .i64 a3_0, .int .i64 a3_1] 29 (0, 0)) (by (with_reducible repeat (first | refine blk_drewN ?_ _ | refine blk_drew ?_ | refine blk_alloc ?_ _)); exact BK268.out) hb)
                have n2_ := Aside0.mk (below_step (by repeat (first | (with_reducible first | exact HB.out | apply below_alloc | apply pw_below_drewN | apply below_drew1 | refine below_set ?_ GE268.out) | exact HB.out)) hb)
                clear BK268
                clear HB
                have HO273 := n0_
                have BK268 := n1_
                have HB := n2_
                clear n0_ n1_ n2_
                (try clear hb)
                (try clear hb2)
                (try clear hk)
                (try clear hi)
                (try clear ho0)
                refine hK.out _ _ ⟨(blk_cell BK268.out 0).trans rfl, (blk_cell BK268.out 1).trans rfl⟩ (fun hHeld => ?_)
                clear hK K
                refine norm_ (a' := ?_) ?_ ?_
                rotate_left
                · show Act.put _ (some 21) _ = _
                  simp only [Act.put, List.setIfInBounds_toArray, List.set_cons_zero, List.set_cons_succ, i64_w, i32_w]
                  rfl
                refine one_ (i := 6) (N := some 24) #[true, true, true, true, true, true, true, false, false] rfl rfl (one_of HT_.out (by kernel_rfl)) (by decide) (fun K hK => ?_)
                refine goes_ Try.func35 (by kernel_rfl) rfl #[.slice A0 l0.length c0, .agg #[.int .i64 a3_0, .int .i64 a3_1]] (by rfl) rfl rfl (by (try simp only [List.map_toArray, List.map_cons, List.map_nil]); first | done | rfl | (simp only [List.length_drop, List.length_take]; rfl)) ?_
                with_reducible refine (span_Without.calls k _ _ l0 a3_0 a3_1 t274 _ ?side1 ?side2 A12.out).mono ?_
                (case side1 => repeat (first | exact (Kd.C_below HR0.out HB.out) | (with_reducible refine Kd.C_alloc ?_ _) | (with_reducible refine Kd.C_drewN ?_ _) | (with_reducible refine Kd.C_drew ?_)))
                (case side2 => exact HC0.out)
                rintro e w29 ⟨v275, rfl, ho0, hb⟩
                refine ⟨_, rfl, ?_⟩
                have n0_ := Aside0.mk (Kd.R_elder' (by (with_reducible repeat (first | apply Kd.R_alloc | apply Kd.R_drewN | apply Kd.R_drew)); exact HO273.out) (Kd.R_base ho0) hb)
                have n1_ := Aside0.mk (Kd.R_lower (Kd.R_newB (Kd.R_new' ho0 (Kd.R_lt (by (with_reducible repeat (first | apply Kd.R_alloc | apply Kd.R_drewN | apply Kd.R_drew)); exact HO273.out))) (g := gb268) (o := .cells #[.int .i64 a3_0, .int .i64 a3_1] 29 (0, 0)) (by (with_reducible repeat (first | refine blk_drewN ?_ _ | refine blk_drew ?_ | refine blk_alloc ?_ _)); exact BK268.out)) (below_size (by repeat (first | (with_reducible first | exact HB.out | apply below_alloc | apply pw_below_drewN | apply below_drew1 | refine below_set ?_ GE268.out) | exact HB.out))))
                have n2_ := Aside0.mk (blk_below (g := gb268) (o := .cells #[.int .i64 a3_0, .int .i64 a3_1] 29 (0, 0)) (by (with_reducible repeat (first | refine blk_drewN ?_ _ | refine blk_drew ?_ | refine blk_alloc ?_ _)); exact BK268.out) hb)
                have n3_ := Aside0.mk (below_step (by repeat (first | (with_reducible first | exact HB.out | apply below_alloc | apply pw_below_drewN | apply below_drew1 | refine below_set ?_ GE268.out) | exact HB.out)) hb)
                clear HO273
                clear BK268
                clear HB
                have HO273 := n0_
                have HO276 := n1_
                have BK268 := n2_
                have HB := n3_
                clear n0_ n1_ n2_ n3_
                (try clear hb)
                (try clear hb2)
                (try clear hk)
                (try clear hi)
                (try clear ho0)
                refine hK.out _ _ ⟨(blk_cell BK268.out 0).trans rfl, (blk_cell BK268.out 1).trans rfl⟩ (fun hHeld => ?_)
                clear hK K
                refine norm_ (a' := ?_) ?_ ?_
                rotate_left
                · show Act.put _ (some 24) _ = _
                  simp only [Act.put, List.setIfInBounds_toArray, List.set_cons_zero, List.set_cons_succ, i64_w, i32_w]
                  rfl
                refine pure_ (i := 7) (N := some 11) (v := ?_) (a' := ?_) #[true, true, true, true, true, true, true, true, false] rfl rfl (any_of HT_.out (by kernel_rfl)) (fun _ _ _ h => h) (Or.inl ⟨by rfl, ?_⟩) ?_ ?_
                rotate_left
                · intro w'
                  go_simp
                  with_reducible rfl
                rotate_left
                · simp only [Act.put, List.setIfInBounds_toArray, List.set_cons_zero, List.set_cons_succ, i64_w, i32_w]
                  rfl
                refine pure_ (i := 8) (N := some 12) (v := ?_) (a' := ?_) #[true, true, true, true, true, true, true, true, true] rfl rfl (any_of HT_.out (by kernel_rfl)) (fun _ _ _ h => h) (Or.inl ⟨by rfl, ?_⟩) ?_ ?_
                rotate_left
                · intro w'
                  go_simp
                  with_reducible rfl
                rotate_left
                · simp only [Act.put, List.setIfInBounds_toArray, List.set_cons_zero, List.set_cons_succ, i64_w, i32_w]
                  rfl
                refine done_ (done_of HT_.out (by kernel_rfl)) ?_
                try go_wp2_with (first | ((with_reducible refine gate_callee (f := 21) rfl ?_); refine goesL_ (some 27) rfl rfl Try.func21 (by kernel_rfl) rfl #[.slice A0 l0.length c0, .int .i64 a4] rfl (by (try simp only [List.map_toArray, List.map_cons, List.map_nil]); first | done | rfl | (simp only [List.length_drop, List.length_take]; rfl)) ?_; (with_reducible refine (remontoirref04_In.calls k _ _ l0 a4 true _ ?side1 ?side2 A13.out).mono ?_); (case side1 => repeat (first | exact (Kd.C_below HR0.out HB.out) | (with_reducible refine Kd.C_alloc ?_ _) | (with_reducible refine Kd.C_drewN ?_ _) | (with_reducible refine Kd.C_drew ?_))); (case side2 => exact HC0.out); rintro e w30 ⟨rfl, hb⟩; refine ⟨_, rfl, ?_⟩; have n0_ := Aside0.mk (Kd.R_below (by (with_reducible repeat (first | apply Kd.R_alloc | apply Kd.R_drewN | apply Kd.R_drew)); exact HO273.out) hb); have n1_ := Aside0.mk (Kd.R_below (by (with_reducible repeat (first | apply Kd.R_alloc | apply Kd.R_drewN | apply Kd.R_drew)); exact HO276.out) hb); have n2_ := Aside0.mk (blk_below (g := gb268) (o := .cells #[.int .i64 a3_0, .int .i64 a3_1] 29 (0, 0)) (by (with_reducible repeat (first | refine blk_drewN ?_ _ | refine blk_drew ?_ | refine blk_alloc ?_ _)); exact BK268.out) hb); have n3_ := Aside0.mk (below_step (by repeat (first | (with_reducible first | exact HB.out | apply below_alloc | apply pw_below_drewN | apply below_drew1 | refine below_set ?_ GE268.out) | exact HB.out)) hb); clear HO273; clear HO276; clear BK268; clear HB; have HO273 := n0_; have HO276 := n1_; have BK268 := n2_; have HB := n3_; clear n0_ n1_ n2_ n3_; (try clear hb); (try clear hb2); (try clear hk); (try clear hi); have hcz31_0 : w30.cell? ⟨gb268, 0, none⟩ = some (.int .i64 a3_0) := (blk_cell BK268.out 0).trans rfl; have hcz31_1 : w30.cell? ⟨gb268, 1, none⟩ = some (.int .i64 a3_1) := (blk_cell BK268.out 1).trans rfl; have hfz31_0 := blk_frozen BK268.out 0; have hfz31_1 := blk_frozen BK268.out 1) | ((with_reducible refine gate_dst (N := 29) rfl ?_); refine Kd.R_lit k29 _ 29 ?hg (N := 29) ?hd (xs := ([(⟨a3_0, a3_1⟩ : S29)] : List (S29))) (inner := [.int .i64 a3_0, .int .i64 a3_1]) (ok := fun _ => True) (okp := fun _ => True) ?hr ?hp (fun _ hk => hk) trivial (Below.refl _ _) (Nat.le_refl _) (by simp) ?_; (case hd => rfl); (case hg => rfl); (case hr => first | (go_simp; done) | (go_simp; rfl)); (case hp => exact (Reps.c2 (show Kd.M k29 _ _ _ (⟨a3_0, a3_1⟩ : S29) [.int .i64 a3_0, .int .i64 a3_1] from (k29_mkM _ _ _ (⟨a3_0, a3_1⟩ : S29) )) (Reps.none _ _))); intro v279 w32 ho33 hb hg_ hnew_; clear hg_ hnew_; (first | rw [← Ny278.out] at ho33 | (simp only [Int.reduceToNat] at ho33; rw [← Ny278.out] at ho33)); have n0_ := Aside0.mk (Kd.R_elder' (by (with_reducible repeat (first | apply Kd.R_alloc | apply Kd.R_drewN | apply Kd.R_drew)); exact HO273.out) (Kd.R_base ho33) hb); have n1_ := Aside0.mk (Kd.R_elder' (by (with_reducible repeat (first | apply Kd.R_alloc | apply Kd.R_drewN | apply Kd.R_drew)); exact HO276.out) (Kd.R_base ho33) hb); have n2_ := Aside0.mk (Kd.R_lower (Kd.R_newB (Kd.R_new' (Kd.R_new' ho33 (Kd.R_lt (by (with_reducible repeat (first | apply Kd.R_alloc | apply Kd.R_drewN | apply Kd.R_drew)); exact HO273.out))) (Kd.R_lt (by (with_reducible repeat (first | apply Kd.R_alloc | apply Kd.R_drewN | apply Kd.R_drew)); exact HO276.out))) (g := gb268) (o := .cells #[.int .i64 a3_0, .int .i64 a3_1] 29 (0, 0)) (by (with_reducible repeat (first | refine blk_drewN ?_ _ | refine blk_drew ?_ | refine blk_alloc ?_ _)); exact BK268.out)) (below_size (by repeat (first | (with_reducible first | exact HB.out | apply below_alloc | apply pw_below_drewN | apply below_drew1 | refine below_set ?_ GE268.out) | exact HB.out)))); have n3_ := Aside0.mk (blk_below (g := gb268) (o := .cells #[.int .i64 a3_0, .int .i64 a3_1] 29 (0, 0)) (by (with_reducible repeat (first | refine blk_drewN ?_ _ | refine blk_drew ?_ | refine blk_alloc ?_ _)); exact BK268.out) hb); have n4_ := Aside0.mk (below_step (by repeat (first | (with_reducible first | exact HB.out | apply below_alloc | apply pw_below_drewN | apply below_drew1 | refine below_set ?_ GE268.out) | exact HB.out)) hb); clear HO273; clear HO276; clear BK268; clear HB; have HO273 := n0_; have HO276 := n1_; have HO280 := n2_; have BK268 := n3_; have HB := n4_; clear n0_ n1_ n2_ n3_ n4_; clear hb ho33; obtain ⟨Ao34, co34, eo34⟩ := Kd.R_slice HO280.out; subst eo34) | ((with_reducible refine gate_callee (f := 21) rfl ?_); refine goesL_ (some 31) rfl rfl Try.func21 (by kernel_rfl) rfl #[.slice Ao34 y278.length co34, .int .i64 a4] rfl (by (try simp only [List.map_toArray, List.map_cons, List.map_nil]); first | done | rfl | (simp only [List.length_drop, List.length_take]; rfl)) ?_; (with_reducible refine (remontoirref04_In.calls k _ _ y278 a4 t281 _ ?side1 ?side2 A14.out).mono ?_); (case side1 => repeat (first | exact (Kd.R_reads' HO280.out).2.2 | (with_reducible refine Kd.C_alloc ?_ _) | (with_reducible refine Kd.C_drewN ?_ _) | (with_reducible refine Kd.C_drew ?_))); (case side2 => exact (Kd.R_reads' HO280.out).2.1); rintro e w35 ⟨rfl, hb⟩; refine ⟨_, rfl, ?_⟩; have n0_ := Aside0.mk (Kd.R_below (by (with_reducible repeat (first | apply Kd.R_alloc | apply Kd.R_drewN | apply Kd.R_drew)); exact HO273.out) hb); have n1_ := Aside0.mk (Kd.R_below (by (with_reducible repeat (first | apply Kd.R_alloc | apply Kd.R_drewN | apply Kd.R_drew)); exact HO276.out) hb); have n2_ := Aside0.mk (Kd.R_below (by (with_reducible repeat (first | apply Kd.R_alloc | apply Kd.R_drewN | apply Kd.R_drew)); exact HO280.out) hb); have n3_ := Aside0.mk (blk_below (g := gb268) (o := .cells #[.int .i64 a3_0, .int .i64 a3_1] 29 (0, 0)) (by (with_reducible repeat (first | refine blk_drewN ?_ _ | refine blk_drew ?_ | refine blk_alloc ?_ _)); exact BK268.out) hb); have n4_ := Aside0.mk (below_step (by repeat (first | (with_reducible first | exact HB.out | apply below_alloc | apply pw_below_drewN | apply below_drew1 | refine below_set ?_ GE268.out) | exact HB.out)) hb); clear HO273; clear HO276; clear HO280; clear BK268; clear HB; have HO273 := n0_; have HO276 := n1_; have HO280 := n2_; have BK268 := n3_; have HB := n4_; clear n0_ n1_ n2_ n3_ n4_; (try clear hb); (try clear hb2); (try clear hk); (try clear hi); obtain ⟨Ao36, co36, eo36⟩ := Kd.R_slice HO273.out; subst eo36) | ((with_reducible refine gate_callee (f := 16) rfl ?_); refine goesL_ (some 33) rfl rfl Try.func16 (by kernel_rfl) rfl #[.slice Ao36 t271.length co36] rfl (by (try simp only [List.map_toArray, List.map_cons, List.map_nil]); first | done | rfl | (simp only [List.length_drop, List.length_take]; rfl)) ?_; (with_reducible refine (remontoirref04_Right.calls k _ _ t271 true _ ?side1 ?side2 A15.out).mono ?_); (case side1 => repeat (first | exact (Kd.R_reads' HO273.out).2.2 | (with_reducible refine Kd.C_alloc ?_ _) | (with_reducible refine Kd.C_drewN ?_ _) | (with_reducible refine Kd.C_drew ?_))); (case side2 => exact (Kd.R_reads' HO273.out).2.1); rintro e w37 ⟨rfl, hb⟩; refine ⟨_, rfl, ?_⟩; have n0_ := Aside0.mk (Kd.R_below (by (with_reducible repeat (first | apply Kd.R_alloc | apply Kd.R_drewN | apply Kd.R_drew)); exact HO273.out) hb); have n1_ := Aside0.mk (Kd.R_below (by (with_reducible repeat (first | apply Kd.R_alloc | apply Kd.R_drewN | apply Kd.R_drew)); exact HO276.out) hb); have n2_ := Aside0.mk (Kd.R_below (by (with_reducible repeat (first | apply Kd.R_alloc | apply Kd.R_drewN | apply Kd.R_drew)); exact HO280.out) hb); have n3_ := Aside0.mk (blk_below (g := gb268) (o := .cells #[.int .i64 a3_0, .int .i64 a3_1] 29 (0, 0)) (by (with_reducible repeat (first | refine blk_drewN ?_ _ | refine blk_drew ?_ | refine blk_alloc ?_ _)); exact BK268.out) hb); have n4_ := Aside0.mk (below_step (by repeat (first | (with_reducible first | exact HB.out | apply below_alloc | apply pw_below_drewN | apply below_drew1 | refine below_set ?_ GE268.out) | exact HB.out)) hb); clear HO273; clear HO276; clear HO280; clear BK268; clear HB; have HO273 := n0_; have HO276 := n1_; have HO280 := n2_; have BK268 := n3_; have HB := n4_; clear n0_ n1_ n2_ n3_ n4_; (try clear hb); (try clear hb2); (try clear hk); (try clear hi); obtain ⟨Ao38, co38, eo38⟩ := Kd.R_slice HO276.out; subst eo38) | (go_at_call 16; (with_reducible refine (remontoirref04_Right.calls k _ _ t274 true _ ?side1 ?side2 A17.out).mono ?_); (case side1 => repeat (first | exact (Kd.R_reads' HO276.out).2.2 | (with_reducible refine Kd.C_alloc ?_ _) | (with_reducible refine Kd.C_drewN ?_ _) | (with_reducible refine Kd.C_drew ?_))); (case side2 => exact (Kd.R_reads' HO276.out).2.1); rintro e w39 ⟨rfl, hb⟩; have n0_ := Aside0.mk (Kd.R_below (by (with_reducible repeat (first | apply Kd.R_alloc | apply Kd.R_drewN | apply Kd.R_drew)); exact HO273.out) hb); have n1_ := Aside0.mk (Kd.R_below (by (with_reducible repeat (first | apply Kd.R_alloc | apply Kd.R_drewN | apply Kd.R_drew)); exact HO276.out) hb); have n2_ := Aside0.mk (Kd.R_below (by (with_reducible repeat (first | apply Kd.R_alloc | apply Kd.R_drewN | apply Kd.R_drew)); exact HO280.out) hb); have n3_ := Aside0.mk (blk_below (g := gb268) (o := .cells #[.int .i64 a3_0, .int .i64 a3_1] 29 (0, 0)) (by (with_reducible repeat (first | refine blk_drewN ?_ _ | refine blk_drew ?_ | refine blk_alloc ?_ _)); exact BK268.out) hb); have n4_ := Aside0.mk (below_step (by repeat (first | (with_reducible first | exact HB.out | apply below_alloc | apply pw_below_drewN | apply below_drew1 | refine below_set ?_ GE268.out) | exact HB.out)) hb); clear HO273; clear HO276; clear HO280; clear BK268; clear HB; have HO273 := n0_; have HO276 := n1_; have HO280 := n2_; have BK268 := n3_; have HB := n4_; clear n0_ n1_ n2_ n3_ n4_; (try clear hb); (try clear hb2); (try clear hk); (try clear hi)) | (go_at_call 21; (with_reducible refine (remontoirref04_In.calls k _ _ t271 a4 t284 _ ?side1 ?side2 A19.out).mono ?_); (case side1 => repeat (first | exact (Kd.R_reads' HO273.out).2.2 | (with_reducible refine Kd.C_alloc ?_ _) | (with_reducible refine Kd.C_drewN ?_ _) | (with_reducible refine Kd.C_drew ?_))); (case side2 => exact (Kd.R_reads' HO273.out).2.1); rintro e w40 ⟨rfl, hb⟩; have n0_ := Aside0.mk (Kd.R_below (by (with_reducible repeat (first | apply Kd.R_alloc | apply Kd.R_drewN | apply Kd.R_drew)); exact HO273.out) hb); have n1_ := Aside0.mk (Kd.R_below (by (with_reducible repeat (first | apply Kd.R_alloc | apply Kd.R_drewN | apply Kd.R_drew)); exact HO276.out) hb); have n2_ := Aside0.mk (Kd.R_below (by (with_reducible repeat (first | apply Kd.R_alloc | apply Kd.R_drewN | apply Kd.R_drew)); exact HO280.out) hb); have n3_ := Aside0.mk (blk_below (g := gb268) (o := .cells #[.int .i64 a3_0, .int .i64 a3_1] 29 (0, 0)) (by (with_reducible repeat (first | refine blk_drewN ?_ _ | refine blk_drew ?_ | refine blk_alloc ?_ _)); exact BK268.out) hb); have n4_ := Aside0.mk (below_step (by repeat (first | (with_reducible first | exact HB.out | apply below_alloc | apply pw_below_drewN | apply below_drew1 | refine below_set ?_ GE268.out) | exact HB.out)) hb); clear HO273; clear HO276; clear HO280; clear BK268; clear HB; have HO273 := n0_; have HO276 := n1_; have HO280 := n2_; have BK268 := n3_; have HB := n4_; clear n0_ n1_ n2_ n3_ n4_; (try clear hb); (try clear hb2); (try clear hk); (try clear hi)) | (go_at_call 21; (with_reducible refine (remontoirref04_In.calls k _ _ t274 a4 t285 _ ?side1 ?side2 A23.out).mono ?_); (case side1 => repeat (first | exact (Kd.R_reads' HO276.out).2.2 | (with_reducible refine Kd.C_alloc ?_ _) | (with_reducible refine Kd.C_drewN ?_ _) | (with_reducible refine Kd.C_drew ?_))); (case side2 => exact (Kd.R_reads' HO276.out).2.1); rintro e w41 ⟨rfl, hb⟩; have n0_ := Aside0.mk (Kd.R_below (by (with_reducible repeat (first | apply Kd.R_alloc | apply Kd.R_drewN | apply Kd.R_drew)); exact HO273.out) hb); have n1_ := Aside0.mk (Kd.R_below (by (with_reducible repeat (first | apply Kd.R_alloc | apply Kd.R_drewN | apply Kd.R_drew)); exact HO276.out) hb); have n2_ := Aside0.mk (Kd.R_below (by (with_reducible repeat (first | apply Kd.R_alloc | apply Kd.R_drewN | apply Kd.R_drew)); exact HO280.out) hb); have n3_ := Aside0.mk (blk_below (g := gb268) (o := .cells #[.int .i64 a3_0, .int .i64 a3_1] 29 (0, 0)) (by (with_reducible repeat (first | refine blk_drewN ?_ _ | refine blk_drew ?_ | refine blk_alloc ?_ _)); exact BK268.out) hb); have n4_ := Aside0.mk (below_step (by repeat (first | (with_reducible first | exact HB.out | apply below_alloc | apply pw_below_drewN | apply below_drew1 | refine below_set ?_ GE268.out) | exact HB.out)) hb); clear HO273; clear HO276; clear HO280; clear BK268; clear HB; have HO273 := n0_; have HO276 := n1_; have HO280 := n2_; have BK268 := n3_; have HB := n4_; clear n0_ n1_ n2_ n3_ n4_; (try clear hb); (try clear hb2); (try clear hk); (try clear hi)) | (go_at_call 14; (with_reducible refine (remontoirlaw04_knows.calls k  t286 _ A25.out).mono ?_); rintro e w42 ⟨rfl, hb⟩; have n0_ := Aside0.mk (Kd.R_below (by (with_reducible repeat (first | apply Kd.R_alloc | apply Kd.R_drewN | apply Kd.R_drew)); exact HO273.out) hb); have n1_ := Aside0.mk (Kd.R_below (by (with_reducible repeat (first | apply Kd.R_alloc | apply Kd.R_drewN | apply Kd.R_drew)); exact HO276.out) hb); have n2_ := Aside0.mk (Kd.R_below (by (with_reducible repeat (first | apply Kd.R_alloc | apply Kd.R_drewN | apply Kd.R_drew)); exact HO280.out) hb); have n3_ := Aside0.mk (blk_below (g := gb268) (o := .cells #[.int .i64 a3_0, .int .i64 a3_1] 29 (0, 0)) (by (with_reducible repeat (first | refine blk_drewN ?_ _ | refine blk_drew ?_ | refine blk_alloc ?_ _)); exact BK268.out) hb); have n4_ := Aside0.mk (below_step (by repeat (first | (with_reducible first | exact HB.out | apply below_alloc | apply pw_below_drewN | apply below_drew1 | refine below_set ?_ GE268.out) | exact HB.out)) hb); clear HO273; clear HO276; clear HO280; clear BK268; clear HB; have HO273 := n0_; have HO276 := n1_; have HO280 := n2_; have BK268 := n3_; have HB := n4_; clear n0_ n1_ n2_ n3_ n4_; (try clear hb); (try clear hb2); (try clear hk); (try clear hi)))
                go_ret
                exact ⟨by first | rfl | (rw [HR_.out] <;> rfl) | (simp [errW_none, errW_some] <;> rfl) | (simp [*, errW_none, errW_some] <;> rfl), by repeat (first | (with_reducible first | exact HB.out | apply below_alloc | apply pw_below_drewN | apply below_drew1 | refine below_set ?_ GE268.out) | exact HB.out)⟩
              · rw [if_neg c24] at H
                have c24b0 : (t285 == (!t281)) = false := by simpa using c24
                (try (have c24b1 : decide (t285 = (!t281)) = false := by simpa using c24))
                (try (have c24b2 : (t285 == (!t281)) = false := by simpa using c24))
                (try (have c24b3 : ¬ (t285 = (!t281)) := by simpa using c24))
                clear c24
                exact absurd H (by simp)
            · rw [if_neg c22] at H
              have c22b0 : (t284 == (decide (a4 < a2))) = false := by simpa using c22
              (try (have c22b1 : decide (t284 = (decide (a4 < a2))) = false := by simpa using c22))
              (try (have c22b2 : (t284 == (decide (a4 < a2))) = false := by simpa using c22))
              (try (have c22b3 : ¬ (t284 = (decide (a4 < a2))) := by simpa using c22))
              clear c22
              exact absurd H (by simp)
          · rw [if_neg c21] at H
            have c21b0 : decide (a1 ≤ a4) = false := decide_eq_false c21
            clear c21
            by_cases c43 : (t284 == false) = true
            · rw [if_pos c43] at H
              have c43b0 : (t284 == false) = true := c43
              (try (have c43b1 : decide (t284 = false) = true := by simpa using c43))
              (try (have c43b2 : (t284 == false) = true := by simpa using c43))
              clear c43
              replace H := Option.bind_eq_some_iff.mp H
              obtain ⟨t287, A440, H⟩ := H
              replace H : (if (t287 == (!t281)) = true then ((remontoirlaw04_knows.f k).bind fun t288 => (some t288)) else (some false)) = some true := H
              have A44 := Aside0.mk A440
              clear A440
              by_cases c45 : (t287 == (!t281)) = true
              · rw [if_pos c45] at H
                have c45b0 : (t287 == (!t281)) = true := c45
                (try (have c45b1 : decide (t287 = (!t281)) = true := by simpa using c45))
                (try (have c45b2 : (t287 == (!t281)) = true := by simpa using c45))
                clear c45
                replace H := Option.bind_eq_some_iff.mp H
                obtain ⟨t288, A460, H⟩ := H
                replace H : (some t288) = some true := H
                have A46 := Aside0.mk A460
                clear A460
                have HR_ := Aside0.mk (Option.some.inj H)
                clear H
                go_enter Try.func9, Try.ntmps9
                try go_wp2_with (first | ((with_reducible refine gate_dst (N := 8) rfl ?_); refine box_event ?hg (N := 8) ?hd (cs := #[.int .i64 a3_0, .int .i64 a3_1]) (t := 29) ?hr ?_; (case hd => rfl); (case hg => rfl); (case hr => first | (go_simp; done) | (go_simp; rfl)); intro gb268 hg w47 hbox hb; have n0_ := Aside0.mk (below_step (by repeat (first | (with_reducible first | exact HB.out | apply below_alloc | apply pw_below_drewN | apply below_drew1) | exact HB.out)) hb); have n1_ := Aside0.mk (hbox); have n2_ := Aside0.mk ((by rw [hg]; exact (below_size (by repeat (first | (with_reducible first | exact HB.out | apply below_alloc | apply pw_below_drewN | apply below_drew1) | exact HB.out))) : w.heap.size ≤ gb268)); have n3_ := Aside0.mk ((by rw [hg]; exact (below_size (by repeat (first | (with_reducible first | exact HB.out | apply below_alloc | apply pw_below_drewN | apply below_drew1) | exact HB.out))) : w.heap.size ≤ gb268)); clear HB; have HB := n0_; have BK268 := n1_; have GW268 := n2_; have GE268 := n3_; clear n0_ n1_ n2_ n3_; clear hb hbox hg) | ((with_reducible refine gate_callee (f := 13) rfl ?_); refine goesL_ (some 16) rfl rfl Try.func13 (by kernel_rfl) rfl #[.slice A0 l0.length c0] rfl (by (try simp only [List.map_toArray, List.map_cons, List.map_nil]); first | done | rfl | (simp only [List.length_drop, List.length_take]; rfl)) ?_; (with_reducible refine (remontoirlaw04_great.calls _ _ l0 false _ ?side1 ?side2 A6.out).mono ?_); (case side1 => repeat (first | exact (Kd.C_below HR0.out HB.out) | (with_reducible refine Kd.C_alloc ?_ _) | (with_reducible refine Kd.C_drewN ?_ _) | (with_reducible refine Kd.C_drew ?_))); (case side2 => exact HC0.out); rintro e w' ⟨rfl, ⟨nd, rfl⟩⟩; refine ⟨_, rfl, ?_⟩))
                (try (rw [drewN_self w47]; generalize hq_ : World.drewN w47 _ = w47; have n0_ : Aside0 (w47.heap[gb268]? = some (.cells #[.int .i64 a3_0, .int .i64 a3_1] 29 (0, 0))) := ⟨by rw [← hq_]; exact (by (with_reducible repeat (first | refine blk_drewN ?_ _ | refine blk_drew ?_ | refine blk_alloc ?_ _)); exact BK268.out)⟩; have n1_ : Aside0 (Below w.heap.size w w47) := ⟨by rw [← hq_]; exact (by repeat (first | (with_reducible first | exact HB.out | apply below_alloc | apply pw_below_drewN | apply below_drew1 | refine below_set ?_ GE268.out) | exact HB.out))⟩; clear BK268 HB hq_; have BK268 := n0_; have HB := n1_; clear n0_ n1_))
                have n0_ := Aside0.mk (blk_drew BK268.out)
                have n1_ := Aside0.mk (below_drew1 HB.out)
                clear BK268
                clear HB
                have BK268 := n0_
                have HB := n1_
                clear n0_ n1_
                refine start_ (n := 9) (S := fun w' => w'.cell? ⟨gb268, 0, none⟩ = some (.int .i64 a3_0) ∧ w'.cell? ⟨gb268, 1, none⟩ = some (.int .i64 a3_1)) (ds := []) #[false, false, false, false, false, false, false, false, false] (by kernel_rfl) rfl rfl ⟨(blk_cell BK268.out 0).trans rfl, (blk_cell BK268.out 1).trans rfl⟩ (fun hHeld => ?_); refine with_tabW remontoirlaw04_SpanCuts.tab3 remontoirlaw04_SpanCuts.bits3 (fun HT_ HW_ => ?_)
                generalize w47.drew = w48 at BK268 HB hHeld ⊢
                refine pure_ (i := 0) (N := some 18) (v := ?_) (a' := ?_) #[true, false, false, false, false, false, false, false, false] rfl rfl (any_of HT_.out (by kernel_rfl)) (fun _ _ _ h => h) (Or.inl ⟨by rfl, ?_⟩) ?_ ?_
                rotate_left
                · intro w'
                  go_simp
                  with_reducible rfl
                rotate_left
                · simp only [Act.put, List.setIfInBounds_toArray, List.set_cons_zero, List.set_cons_succ, i64_w, i32_w]
                  rfl
                refine pure_ (i := 1) (N := some 19) (v := ?_) (a' := ?_) #[true, true, false, false, false, false, false, false, false] rfl rfl (any_of HT_.out (by kernel_rfl)) (fun _ _ _ h => h) (Or.inl ⟨by rfl, ?_⟩) ?_ ?_
                rotate_left
                · intro w'
                  go_simp
                  with_reducible rfl
                rotate_left
                · simp only [Act.put, List.setIfInBounds_toArray, List.set_cons_zero, List.set_cons_succ, i64_w, i32_w]
                  rfl
                refine pure_ (i := 2) (N := some 20) (v := ?_) (a' := ?_) #[true, true, true, false, false, false, false, false, false] rfl rfl (any_of HT_.out (by kernel_rfl)) (fun _ _ _ h => h) (Or.inl ⟨by rfl, ?_⟩) ?_ ?_
                rotate_left
                · intro w'
                  go_simp
                  with_reducible rfl
                rotate_left
                · simp only [Act.put, List.setIfInBounds_toArray, List.set_cons_zero, List.set_cons_succ, i64_w, i32_w]
                  rfl
                refine pure_ (i := 4) (N := some 22) (v := ?_) (a' := ?_) #[true, true, true, false, true, false, false, false, false] rfl rfl (any_of HT_.out (by kernel_rfl)) (fun _ _ _ h => h) (Or.inl ⟨by rfl, ?_⟩) ?_ ?_
                rotate_left
                · intro w'
                  go_simp
                  with_reducible rfl
                rotate_left
                · simp only [Act.put, List.setIfInBounds_toArray, List.set_cons_zero, List.set_cons_succ, i64_w, i32_w]
                  rfl
                refine take_ (i := 5) (N := some 23) (v := ?_) (a' := ?_) #[true, true, true, false, true, true, false, false, false] rfl rfl (take_ofW HT_.out HW_.out (by kernel_rfl)) (fun _ _ _ h => h) (Or.inl ⟨by rfl, ?_⟩) hHeld ?_ ?_
                rotate_left
                · rintro w' ⟨s0, s1⟩
                  go_simp
                  with_reducible rfl
                rotate_left
                · simp only [Act.put, List.setIfInBounds_toArray, List.set_cons_zero, List.set_cons_succ, i64_w, i32_w]
                  rfl
                refine one_ (i := 3) (N := some 21) #[true, true, true, true, true, true, false, false, false] rfl rfl (one_of HT_.out (by kernel_rfl)) (by decide) (fun K hK => ?_)
                refine goes_ Try.func23 (by kernel_rfl) rfl #[.slice A0 l0.length c0, .int .i64 a1, .int .i64 a2] (by rfl) rfl rfl (by (try simp only [List.map_toArray, List.map_cons, List.map_nil]); first | done | rfl | (simp only [List.length_drop, List.length_take]; rfl)) ?_
                with_reducible refine (span_Cut.calls k _ _ l0 a1 a2 t271 _ ?side1 ?side2 A11.out).mono ?_
                (case side1 => repeat (first | exact (Kd.C_below HR0.out HB.out) | (with_reducible refine Kd.C_alloc ?_ _) | (with_reducible refine Kd.C_drewN ?_ _) | (with_reducible refine Kd.C_drew ?_)))
                (case side2 => exact HC0.out)
                rintro e w49 ⟨v272, rfl, ho0, hb⟩
                refine ⟨_, rfl, ?_⟩
                have n0_ := Aside0.mk (Kd.R_lower (Kd.R_newB ho0 (g := gb268) (o := .cells #[.int .i64 a3_0, .int .i64 a3_1] 29 (0, 0)) (by (with_reducible repeat (first | refine blk_drewN ?_ _ | refine blk_drew ?_ | refine blk_alloc ?_ _)); exact BK268.out)) (below_size (by repeat (first | (with_reducible first | exact HB.out | apply below_alloc | apply pw_below_drewN | apply below_drew1 | refine below_set ?_ GE268.out) | exact HB.out))))
                have n1_ := Aside0.mk (blk_below (g := gb268) (o := .cells #[.int .i64 a3_0, .int .i64 a3_1] 29 (0, 0)) (by (with_reducible repeat (first | refine blk_drewN ?_ _ | refine blk_drew ?_ | refine blk_alloc ?_ _)); exact BK268.out) hb)
                have n2_ := Aside0.mk (below_step (by repeat (first | (with_reducible first | exact HB.out | apply below_alloc | apply pw_below_drewN | apply below_drew1 | refine below_set ?_ GE268.out) | exact HB.out)) hb)
                clear BK268
                clear HB
                have HO273 := n0_
                have BK268 := n1_
                have HB := n2_
                clear n0_ n1_ n2_
                (try clear hb)
                (try clear hb2)
                (try clear hk)
                (try clear hi)
                (try clear ho0)
                refine hK.out _ _ ⟨(blk_cell BK268.out 0).trans rfl, (blk_cell BK268.out 1).trans rfl⟩ (fun hHeld => ?_)
                clear hK K
                refine norm_ (a' := ?_) ?_ ?_
                rotate_left
                · show Act.put _ (some 21) _ = _
                  simp only [Act.put, List.setIfInBounds_toArray, List.set_cons_zero, List.set_cons_succ, i64_w, i32_w]
                  rfl
                refine one_ (i := 6) (N := some 24) #[true, true, true, true, true, true, true, false, false] rfl rfl (one_of HT_.out (by kernel_rfl)) (by decide) (fun K hK => ?_)
                refine goes_ Try.func35 (by kernel_rfl) rfl #[.slice A0 l0.length c0, .agg #[.int .i64 a3_0, .int .i64 a3_1]] (by rfl) rfl rfl (by (try simp only [List.map_toArray, List.map_cons, List.map_nil]); first | done | rfl | (simp only [List.length_drop, List.length_take]; rfl)) ?_
                with_reducible refine (span_Without.calls k _ _ l0 a3_0 a3_1 t274 _ ?side1 ?side2 A12.out).mono ?_
                (case side1 => repeat (first | exact (Kd.C_below HR0.out HB.out) | (with_reducible refine Kd.C_alloc ?_ _) | (with_reducible refine Kd.C_drewN ?_ _) | (with_reducible refine Kd.C_drew ?_)))
                (case side2 => exact HC0.out)
                rintro e w50 ⟨v275, rfl, ho0, hb⟩
                refine ⟨_, rfl, ?_⟩
                have n0_ := Aside0.mk (Kd.R_elder' (by (with_reducible repeat (first | apply Kd.R_alloc | apply Kd.R_drewN | apply Kd.R_drew)); exact HO273.out) (Kd.R_base ho0) hb)
                have n1_ := Aside0.mk (Kd.R_lower (Kd.R_newB (Kd.R_new' ho0 (Kd.R_lt (by (with_reducible repeat (first | apply Kd.R_alloc | apply Kd.R_drewN | apply Kd.R_drew)); exact HO273.out))) (g := gb268) (o := .cells #[.int .i64 a3_0, .int .i64 a3_1] 29 (0, 0)) (by (with_reducible repeat (first | refine blk_drewN ?_ _ | refine blk_drew ?_ | refine blk_alloc ?_ _)); exact BK268.out)) (below_size (by repeat (first | (with_reducible first | exact HB.out | apply below_alloc | apply pw_below_drewN | apply below_drew1 | refine below_set ?_ GE268.out) | exact HB.out))))
                have n2_ := Aside0.mk (blk_below (g := gb268) (o := .cells #[.int .i64 a3_0, .int .i64 a3_1] 29 (0, 0)) (by (with_reducible repeat (first | refine blk_drewN ?_ _ | refine blk_drew ?_ | refine blk_alloc ?_ _)); exact BK268.out) hb)
                have n3_ := Aside0.mk (below_step (by repeat (first | (with_reducible first | exact HB.out | apply below_alloc | apply pw_below_drewN | apply below_drew1 | refine below_set ?_ GE268.out) | exact HB.out)) hb)
                clear HO273
                clear BK268
                clear HB
                have HO273 := n0_
                have HO276 := n1_
                have BK268 := n2_
                have HB := n3_
                clear n0_ n1_ n2_ n3_
                (try clear hb)
                (try clear hb2)
                (try clear hk)
                (try clear hi)
                (try clear ho0)
                refine hK.out _ _ ⟨(blk_cell BK268.out 0).trans rfl, (blk_cell BK268.out 1).trans rfl⟩ (fun hHeld => ?_)
                clear hK K
                refine norm_ (a' := ?_) ?_ ?_
                rotate_left
                · show Act.put _ (some 24) _ = _
                  simp only [Act.put, List.setIfInBounds_toArray, List.set_cons_zero, List.set_cons_succ, i64_w, i32_w]
                  rfl
                refine pure_ (i := 7) (N := some 11) (v := ?_) (a' := ?_) #[true, true, true, true, true, true, true, true, false] rfl rfl (any_of HT_.out (by kernel_rfl)) (fun _ _ _ h => h) (Or.inl ⟨by rfl, ?_⟩) ?_ ?_
                rotate_left
                · intro w'
                  go_simp
                  with_reducible rfl
                rotate_left
                · simp only [Act.put, List.setIfInBounds_toArray, List.set_cons_zero, List.set_cons_succ, i64_w, i32_w]
                  rfl
                refine pure_ (i := 8) (N := some 12) (v := ?_) (a' := ?_) #[true, true, true, true, true, true, true, true, true] rfl rfl (any_of HT_.out (by kernel_rfl)) (fun _ _ _ h => h) (Or.inl ⟨by rfl, ?_⟩) ?_ ?_
                rotate_left
                · intro w'
                  go_simp
                  with_reducible rfl
                rotate_left
                · simp only [Act.put, List.setIfInBounds_toArray, List.set_cons_zero, List.set_cons_succ, i64_w, i32_w]
                  rfl
                refine done_ (done_of HT_.out (by kernel_rfl)) ?_
                try go_wp2_with (first | ((with_reducible refine gate_callee (f := 21) rfl ?_); refine goesL_ (some 27) rfl rfl Try.func21 (by kernel_rfl) rfl #[.slice A0 l0.length c0, .int .i64 a4] rfl (by (try simp only [List.map_toArray, List.map_cons, List.map_nil]); first | done | rfl | (simp only [List.length_drop, List.length_take]; rfl)) ?_; (with_reducible refine (remontoirref04_In.calls k _ _ l0 a4 true _ ?side1 ?side2 A13.out).mono ?_); (case side1 => repeat (first | exact (Kd.C_below HR0.out HB.out) | (with_reducible refine Kd.C_alloc ?_ _) | (with_reducible refine Kd.C_drewN ?_ _) | (with_reducible refine Kd.C_drew ?_))); (case side2 => exact HC0.out); rintro e w51 ⟨rfl, hb⟩; refine ⟨_, rfl, ?_⟩; have n0_ := Aside0.mk (Kd.R_below (by (with_reducible repeat (first | apply Kd.R_alloc | apply Kd.R_drewN | apply Kd.R_drew)); exact HO273.out) hb); have n1_ := Aside0.mk (Kd.R_below (by (with_reducible repeat (first | apply Kd.R_alloc | apply Kd.R_drewN | apply Kd.R_drew)); exact HO276.out) hb); have n2_ := Aside0.mk (blk_below (g := gb268) (o := .cells #[.int .i64 a3_0, .int .i64 a3_1] 29 (0, 0)) (by (with_reducible repeat (first | refine blk_drewN ?_ _ | refine blk_drew ?_ | refine blk_alloc ?_ _)); exact BK268.out) hb); have n3_ := Aside0.mk (below_step (by repeat (first | (with_reducible first | exact HB.out | apply below_alloc | apply pw_below_drewN | apply below_drew1 | refine below_set ?_ GE268.out) | exact HB.out)) hb); clear HO273; clear HO276; clear BK268; clear HB; have HO273 := n0_; have HO276 := n1_; have BK268 := n2_; have HB := n3_; clear n0_ n1_ n2_ n3_; (try clear hb); (try clear hb2); (try clear hk); (try clear hi); have hcz52_0 : w51.cell? ⟨gb268, 0, none⟩ = some (.int .i64 a3_0) := (blk_cell BK268.out 0).trans rfl; have hcz52_1 : w51.cell? ⟨gb268, 1, none⟩ = some (.int .i64 a3_1) := (blk_cell BK268.out 1).trans rfl; have hfz52_0 := blk_frozen BK268.out 0; have hfz52_1 := blk_frozen BK268.out 1) | ((with_reducible refine gate_dst (N := 29) rfl ?_); refine Kd.R_lit k29 _ 29 ?hg (N := 29) ?hd (xs := ([(⟨a3_0, a3_1⟩ : S29)] : List (S29))) (inner := [.int .i64 a3_0, .int .i64 a3_1]) (ok := fun _ => True) (okp := fun _ => True) ?hr ?hp (fun _ hk => hk) trivial (Below.refl _ _) (Nat.le_refl _) (by simp) ?_; (case hd => rfl); (case hg => rfl); (case hr => first | (go_simp; done) | (go_simp; rfl)); (case hp => exact (Reps.c2 (show Kd.M k29 _ _ _ (⟨a3_0, a3_1⟩ : S29) [.int .i64 a3_0, .int .i64 a3_1] from (k29_mkM _ _ _ (⟨a3_0, a3_1⟩ : S29) )) (Reps.none _ _))); intro v279 w53 ho54 hb hg_ hnew_; clear hg_ hnew_; (first | rw [← Ny278.out] at ho54 | (simp only [Int.reduceToNat] at ho54; rw [← Ny278.out] at ho54)); have n0_ := Aside0.mk (Kd.R_elder' (by (with_reducible repeat (first | apply Kd.R_alloc | apply Kd.R_drewN | apply Kd.R_drew)); exact HO273.out) (Kd.R_base ho54) hb); have n1_ := Aside0.mk (Kd.R_elder' (by (with_reducible repeat (first | apply Kd.R_alloc | apply Kd.R_drewN | apply Kd.R_drew)); exact HO276.out) (Kd.R_base ho54) hb); have n2_ := Aside0.mk (Kd.R_lower (Kd.R_newB (Kd.R_new' (Kd.R_new' ho54 (Kd.R_lt (by (with_reducible repeat (first | apply Kd.R_alloc | apply Kd.R_drewN | apply Kd.R_drew)); exact HO273.out))) (Kd.R_lt (by (with_reducible repeat (first | apply Kd.R_alloc | apply Kd.R_drewN | apply Kd.R_drew)); exact HO276.out))) (g := gb268) (o := .cells #[.int .i64 a3_0, .int .i64 a3_1] 29 (0, 0)) (by (with_reducible repeat (first | refine blk_drewN ?_ _ | refine blk_drew ?_ | refine blk_alloc ?_ _)); exact BK268.out)) (below_size (by repeat (first | (with_reducible first | exact HB.out | apply below_alloc | apply pw_below_drewN | apply below_drew1 | refine below_set ?_ GE268.out) | exact HB.out)))); have n3_ := Aside0.mk (blk_below (g := gb268) (o := .cells #[.int .i64 a3_0, .int .i64 a3_1] 29 (0, 0)) (by (with_reducible repeat (first | refine blk_drewN ?_ _ | refine blk_drew ?_ | refine blk_alloc ?_ _)); exact BK268.out) hb); have n4_ := Aside0.mk (below_step (by repeat (first | (with_reducible first | exact HB.out | apply below_alloc | apply pw_below_drewN | apply below_drew1 | refine below_set ?_ GE268.out) | exact HB.out)) hb); clear HO273; clear HO276; clear BK268; clear HB; have HO273 := n0_; have HO276 := n1_; have HO280 := n2_; have BK268 := n3_; have HB := n4_; clear n0_ n1_ n2_ n3_ n4_; clear hb ho54; obtain ⟨Ao55, co55, eo55⟩ := Kd.R_slice HO280.out; subst eo55) | ((with_reducible refine gate_callee (f := 21) rfl ?_); refine goesL_ (some 31) rfl rfl Try.func21 (by kernel_rfl) rfl #[.slice Ao55 y278.length co55, .int .i64 a4] rfl (by (try simp only [List.map_toArray, List.map_cons, List.map_nil]); first | done | rfl | (simp only [List.length_drop, List.length_take]; rfl)) ?_; (with_reducible refine (remontoirref04_In.calls k _ _ y278 a4 t281 _ ?side1 ?side2 A14.out).mono ?_); (case side1 => repeat (first | exact (Kd.R_reads' HO280.out).2.2 | (with_reducible refine Kd.C_alloc ?_ _) | (with_reducible refine Kd.C_drewN ?_ _) | (with_reducible refine Kd.C_drew ?_))); (case side2 => exact (Kd.R_reads' HO280.out).2.1); rintro e w56 ⟨rfl, hb⟩; refine ⟨_, rfl, ?_⟩; have n0_ := Aside0.mk (Kd.R_below (by (with_reducible repeat (first | apply Kd.R_alloc | apply Kd.R_drewN | apply Kd.R_drew)); exact HO273.out) hb); have n1_ := Aside0.mk (Kd.R_below (by (with_reducible repeat (first | apply Kd.R_alloc | apply Kd.R_drewN | apply Kd.R_drew)); exact HO276.out) hb); have n2_ := Aside0.mk (Kd.R_below (by (with_reducible repeat (first | apply Kd.R_alloc | apply Kd.R_drewN | apply Kd.R_drew)); exact HO280.out) hb); have n3_ := Aside0.mk (blk_below (g := gb268) (o := .cells #[.int .i64 a3_0, .int .i64 a3_1] 29 (0, 0)) (by (with_reducible repeat (first | refine blk_drewN ?_ _ | refine blk_drew ?_ | refine blk_alloc ?_ _)); exact BK268.out) hb); have n4_ := Aside0.mk (below_step (by repeat (first | (with_reducible first | exact HB.out | apply below_alloc | apply pw_below_drewN | apply below_drew1 | refine below_set ?_ GE268.out) | exact HB.out)) hb); clear HO273; clear HO276; clear HO280; clear BK268; clear HB; have HO273 := n0_; have HO276 := n1_; have HO280 := n2_; have BK268 := n3_; have HB := n4_; clear n0_ n1_ n2_ n3_ n4_; (try clear hb); (try clear hb2); (try clear hk); (try clear hi); obtain ⟨Ao57, co57, eo57⟩ := Kd.R_slice HO273.out; subst eo57) | ((with_reducible refine gate_callee (f := 16) rfl ?_); refine goesL_ (some 33) rfl rfl Try.func16 (by kernel_rfl) rfl #[.slice Ao57 t271.length co57] rfl (by (try simp only [List.map_toArray, List.map_cons, List.map_nil]); first | done | rfl | (simp only [List.length_drop, List.length_take]; rfl)) ?_; (with_reducible refine (remontoirref04_Right.calls k _ _ t271 true _ ?side1 ?side2 A15.out).mono ?_); (case side1 => repeat (first | exact (Kd.R_reads' HO273.out).2.2 | (with_reducible refine Kd.C_alloc ?_ _) | (with_reducible refine Kd.C_drewN ?_ _) | (with_reducible refine Kd.C_drew ?_))); (case side2 => exact (Kd.R_reads' HO273.out).2.1); rintro e w58 ⟨rfl, hb⟩; refine ⟨_, rfl, ?_⟩; have n0_ := Aside0.mk (Kd.R_below (by (with_reducible repeat (first | apply Kd.R_alloc | apply Kd.R_drewN | apply Kd.R_drew)); exact HO273.out) hb); have n1_ := Aside0.mk (Kd.R_below (by (with_reducible repeat (first | apply Kd.R_alloc | apply Kd.R_drewN | apply Kd.R_drew)); exact HO276.out) hb); have n2_ := Aside0.mk (Kd.R_below (by (with_reducible repeat (first | apply Kd.R_alloc | apply Kd.R_drewN | apply Kd.R_drew)); exact HO280.out) hb); have n3_ := Aside0.mk (blk_below (g := gb268) (o := .cells #[.int .i64 a3_0, .int .i64 a3_1] 29 (0, 0)) (by (with_reducible repeat (first | refine blk_drewN ?_ _ | refine blk_drew ?_ | refine blk_alloc ?_ _)); exact BK268.out) hb); have n4_ := Aside0.mk (below_step (by repeat (first | (with_reducible first | exact HB.out | apply below_alloc | apply pw_below_drewN | apply below_drew1 | refine below_set ?_ GE268.out) | exact HB.out)) hb); clear HO273; clear HO276; clear HO280; clear BK268; clear HB; have HO273 := n0_; have HO276 := n1_; have HO280 := n2_; have BK268 := n3_; have HB := n4_; clear n0_ n1_ n2_ n3_ n4_; (try clear hb); (try clear hb2); (try clear hk); (try clear hi); obtain ⟨Ao59, co59, eo59⟩ := Kd.R_slice HO276.out; subst eo59) | (go_at_call 16; (with_reducible refine (remontoirref04_Right.calls k _ _ t274 true _ ?side1 ?side2 A17.out).mono ?_); (case side1 => repeat (first | exact (Kd.R_reads' HO276.out).2.2 | (with_reducible refine Kd.C_alloc ?_ _) | (with_reducible refine Kd.C_drewN ?_ _) | (with_reducible refine Kd.C_drew ?_))); (case side2 => exact (Kd.R_reads' HO276.out).2.1); rintro e w60 ⟨rfl, hb⟩; have n0_ := Aside0.mk (Kd.R_below (by (with_reducible repeat (first | apply Kd.R_alloc | apply Kd.R_drewN | apply Kd.R_drew)); exact HO273.out) hb); have n1_ := Aside0.mk (Kd.R_below (by (with_reducible repeat (first | apply Kd.R_alloc | apply Kd.R_drewN | apply Kd.R_drew)); exact HO276.out) hb); have n2_ := Aside0.mk (Kd.R_below (by (with_reducible repeat (first | apply Kd.R_alloc | apply Kd.R_drewN | apply Kd.R_drew)); exact HO280.out) hb); have n3_ := Aside0.mk (blk_below (g := gb268) (o := .cells #[.int .i64 a3_0, .int .i64 a3_1] 29 (0, 0)) (by (with_reducible repeat (first | refine blk_drewN ?_ _ | refine blk_drew ?_ | refine blk_alloc ?_ _)); exact BK268.out) hb); have n4_ := Aside0.mk (below_step (by repeat (first | (with_reducible first | exact HB.out | apply below_alloc | apply pw_below_drewN | apply below_drew1 | refine below_set ?_ GE268.out) | exact HB.out)) hb); clear HO273; clear HO276; clear HO280; clear BK268; clear HB; have HO273 := n0_; have HO276 := n1_; have HO280 := n2_; have BK268 := n3_; have HB := n4_; clear n0_ n1_ n2_ n3_ n4_; (try clear hb); (try clear hb2); (try clear hk); (try clear hi)) | (go_at_call 21; (with_reducible refine (remontoirref04_In.calls k _ _ t271 a4 t284 _ ?side1 ?side2 A19.out).mono ?_); (case side1 => repeat (first | exact (Kd.R_reads' HO273.out).2.2 | (with_reducible refine Kd.C_alloc ?_ _) | (with_reducible refine Kd.C_drewN ?_ _) | (with_reducible refine Kd.C_drew ?_))); (case side2 => exact (Kd.R_reads' HO273.out).2.1); rintro e w61 ⟨rfl, hb⟩; have n0_ := Aside0.mk (Kd.R_below (by (with_reducible repeat (first | apply Kd.R_alloc | apply Kd.R_drewN | apply Kd.R_drew)); exact HO273.out) hb); have n1_ := Aside0.mk (Kd.R_below (by (with_reducible repeat (first | apply Kd.R_alloc | apply Kd.R_drewN | apply Kd.R_drew)); exact HO276.out) hb); have n2_ := Aside0.mk (Kd.R_below (by (with_reducible repeat (first | apply Kd.R_alloc | apply Kd.R_drewN | apply Kd.R_drew)); exact HO280.out) hb); have n3_ := Aside0.mk (blk_below (g := gb268) (o := .cells #[.int .i64 a3_0, .int .i64 a3_1] 29 (0, 0)) (by (with_reducible repeat (first | refine blk_drewN ?_ _ | refine blk_drew ?_ | refine blk_alloc ?_ _)); exact BK268.out) hb); have n4_ := Aside0.mk (below_step (by repeat (first | (with_reducible first | exact HB.out | apply below_alloc | apply pw_below_drewN | apply below_drew1 | refine below_set ?_ GE268.out) | exact HB.out)) hb); clear HO273; clear HO276; clear HO280; clear BK268; clear HB; have HO273 := n0_; have HO276 := n1_; have HO280 := n2_; have BK268 := n3_; have HB := n4_; clear n0_ n1_ n2_ n3_ n4_; (try clear hb); (try clear hb2); (try clear hk); (try clear hi)) | (go_at_call 21; (with_reducible refine (remontoirref04_In.calls k _ _ t274 a4 t287 _ ?side1 ?side2 A44.out).mono ?_); (case side1 => repeat (first | exact (Kd.R_reads' HO276.out).2.2 | (with_reducible refine Kd.C_alloc ?_ _) | (with_reducible refine Kd.C_drewN ?_ _) | (with_reducible refine Kd.C_drew ?_))); (case side2 => exact (Kd.R_reads' HO276.out).2.1); rintro e w62 ⟨rfl, hb⟩; have n0_ := Aside0.mk (Kd.R_below (by (with_reducible repeat (first | apply Kd.R_alloc | apply Kd.R_drewN | apply Kd.R_drew)); exact HO273.out) hb); have n1_ := Aside0.mk (Kd.R_below (by (with_reducible repeat (first | apply Kd.R_alloc | apply Kd.R_drewN | apply Kd.R_drew)); exact HO276.out) hb); have n2_ := Aside0.mk (Kd.R_below (by (with_reducible repeat (first | apply Kd.R_alloc | apply Kd.R_drewN | apply Kd.R_drew)); exact HO280.out) hb); have n3_ := Aside0.mk (blk_below (g := gb268) (o := .cells #[.int .i64 a3_0, .int .i64 a3_1] 29 (0, 0)) (by (with_reducible repeat (first | refine blk_drewN ?_ _ | refine blk_drew ?_ | refine blk_alloc ?_ _)); exact BK268.out) hb); have n4_ := Aside0.mk (below_step (by repeat (first | (with_reducible first | exact HB.out | apply below_alloc | apply pw_below_drewN | apply below_drew1 | refine below_set ?_ GE268.out) | exact HB.out)) hb); clear HO273; clear HO276; clear HO280; clear BK268; clear HB; have HO273 := n0_; have HO276 := n1_; have HO280 := n2_; have BK268 := n3_; have HB := n4_; clear n0_ n1_ n2_ n3_ n4_; (try clear hb); (try clear hb2); (try clear hk); (try clear hi)) | (go_at_call 14; (with_reducible refine (remontoirlaw04_knows.calls k  t288 _ A46.out).mono ?_); rintro e w63 ⟨rfl, hb⟩; have n0_ := Aside0.mk (Kd.R_below (by (with_reducible repeat (first | apply Kd.R_alloc | apply Kd.R_drewN | apply Kd.R_drew)); exact HO273.out) hb); have n1_ := Aside0.mk (Kd.R_below (by (with_reducible repeat (first | apply Kd.R_alloc | apply Kd.R_drewN | apply Kd.R_drew)); exact HO276.out) hb); have n2_ := Aside0.mk (Kd.R_below (by (with_reducible repeat (first | apply Kd.R_alloc | apply Kd.R_drewN | apply Kd.R_drew)); exact HO280.out) hb); have n3_ := Aside0.mk (blk_below (g := gb268) (o := .cells #[.int .i64 a3_0, .int .i64 a3_1] 29 (0, 0)) (by (with_reducible repeat (first | refine blk_drewN ?_ _ | refine blk_drew ?_ | refine blk_alloc ?_ _)); exact BK268.out) hb); have n4_ := Aside0.mk (below_step (by repeat (first | (with_reducible first | exact HB.out | apply below_alloc | apply pw_below_drewN | apply below_drew1 | refine below_set ?_ GE268.out) | exact HB.out)) hb); clear HO273; clear HO276; clear HO280; clear BK268; clear HB; have HO273 := n0_; have HO276 := n1_; have HO280 := n2_; have BK268 := n3_; have HB := n4_; clear n0_ n1_ n2_ n3_ n4_; (try clear hb); (try clear hb2); (try clear hk); (try clear hi)))
                go_ret
                exact ⟨by first | rfl | (rw [HR_.out] <;> rfl) | (simp [errW_none, errW_some] <;> rfl) | (simp [*, errW_none, errW_some] <;> rfl), by repeat (first | (with_reducible first | exact HB.out | apply below_alloc | apply pw_below_drewN | apply below_drew1 | refine below_set ?_ GE268.out) | exact HB.out)⟩
              · rw [if_neg c45] at H
                have c45b0 : (t287 == (!t281)) = false := by simpa using c45
                (try (have c45b1 : decide (t287 = (!t281)) = false := by simpa using c45))
                (try (have c45b2 : (t287 == (!t281)) = false := by simpa using c45))
                (try (have c45b3 : ¬ (t287 = (!t281)) := by simpa using c45))
                clear c45
                exact absurd H (by simp)
            · rw [if_neg c43] at H
              have c43b0 : (t284 == false) = false := by simpa using c43
              (try (have c43b1 : decide (t284 = false) = false := by simpa using c43))
              (try (have c43b2 : (t284 == false) = false := by simpa using c43))
              (try (have c43b3 : ¬ (t284 = false) := by simpa using c43))
              clear c43
              exact absurd H (by simp)
        · replace c20 := Bool.eq_false_iff.mpr c20
          subst c20
          have H1 : (if (t284 == false) = true then ((remontoirref04_In.f k t274 a4).bind fun t289 => (if (t289 == false) = true then ((remontoirlaw04_knows.f k).bind fun t290 => (some t290)) else (some false))) else (some false)) = some true := by rw [if_neg (show ¬ (false = true) by decide)] at H; exact H
          clear H
          have H := H1
          clear H1
          by_cases c64 : (t284 == false) = true
          · rw [if_pos c64] at H
            have c64b0 : (t284 == false) = true := c64
            (try (have c64b1 : decide (t284 = false) = true := by simpa using c64))
            (try (have c64b2 : (t284 == false) = true := by simpa using c64))
            clear c64
            replace H := Option.bind_eq_some_iff.mp H
            obtain ⟨t289, A650, H⟩ := H
            replace H : (if (t289 == false) = true then ((remontoirlaw04_knows.f k).bind fun t290 => (some t290)) else (some false)) = some true := H
            have A65 := Aside0.mk A650
            clear A650
            by_cases c66 : (t289 == false) = true
            · rw [if_pos c66] at H
              have c66b0 : (t289 == false) = true := c66
              (try (have c66b1 : decide (t289 = false) = true := by simpa using c66))
              (try (have c66b2 : (t289 == false) = true := by simpa using c66))
              clear c66
              replace H := Option.bind_eq_some_iff.mp H
              obtain ⟨t290, A670, H⟩ := H
              replace H : (some t290) = some true := H
              have A67 := Aside0.mk A670
              clear A670
              have HR_ := Aside0.mk (Option.some.inj H)
              clear H
              go_enter Try.func9, Try.ntmps9
              try go_wp2_with (first | ((with_reducible refine gate_dst (N := 8) rfl ?_); refine box_event ?hg (N := 8) ?hd (cs := #[.int .i64 a3_0, .int .i64 a3_1]) (t := 29) ?hr ?_; (case hd => rfl); (case hg => rfl); (case hr => first | (go_simp; done) | (go_simp; rfl)); intro gb268 hg w68 hbox hb; have n0_ := Aside0.mk (below_step (by repeat (first | (with_reducible first | exact HB.out | apply below_alloc | apply pw_below_drewN | apply below_drew1) | exact HB.out)) hb); have n1_ := Aside0.mk (hbox); have n2_ := Aside0.mk ((by rw [hg]; exact (below_size (by repeat (first | (with_reducible first | exact HB.out | apply below_alloc | apply pw_below_drewN | apply below_drew1) | exact HB.out))) : w.heap.size ≤ gb268)); have n3_ := Aside0.mk ((by rw [hg]; exact (below_size (by repeat (first | (with_reducible first | exact HB.out | apply below_alloc | apply pw_below_drewN | apply below_drew1) | exact HB.out))) : w.heap.size ≤ gb268)); clear HB; have HB := n0_; have BK268 := n1_; have GW268 := n2_; have GE268 := n3_; clear n0_ n1_ n2_ n3_; clear hb hbox hg) | ((with_reducible refine gate_callee (f := 13) rfl ?_); refine goesL_ (some 16) rfl rfl Try.func13 (by kernel_rfl) rfl #[.slice A0 l0.length c0] rfl (by (try simp only [List.map_toArray, List.map_cons, List.map_nil]); first | done | rfl | (simp only [List.length_drop, List.length_take]; rfl)) ?_; (with_reducible refine (remontoirlaw04_great.calls _ _ l0 false _ ?side1 ?side2 A6.out).mono ?_); (case side1 => repeat (first | exact (Kd.C_below HR0.out HB.out) | (with_reducible refine Kd.C_alloc ?_ _) | (with_reducible refine Kd.C_drewN ?_ _) | (with_reducible refine Kd.C_drew ?_))); (case side2 => exact HC0.out); rintro e w' ⟨rfl, ⟨nd, rfl⟩⟩; refine ⟨_, rfl, ?_⟩))
              (try (rw [drewN_self w68]; generalize hq_ : World.drewN w68 _ = w68; have n0_ : Aside0 (w68.heap[gb268]? = some (.cells #[.int .i64 a3_0, .int .i64 a3_1] 29 (0, 0))) := ⟨by rw [← hq_]; exact (by (with_reducible repeat (first | refine blk_drewN ?_ _ | refine blk_drew ?_ | refine blk_alloc ?_ _)); exact BK268.out)⟩; have n1_ : Aside0 (Below w.heap.size w w68) := ⟨by rw [← hq_]; exact (by repeat (first | (with_reducible first | exact HB.out | apply below_alloc | apply pw_below_drewN | apply below_drew1 | refine below_set ?_ GE268.out) | exact HB.out))⟩; clear BK268 HB hq_; have BK268 := n0_; have HB := n1_; clear n0_ n1_))
              have n0_ := Aside0.mk (blk_drew BK268.out)
              have n1_ := Aside0.mk (below_drew1 HB.out)
              clear BK268
              clear HB
              have BK268 := n0_
              have HB := n1_
              clear n0_ n1_
              refine start_ (n := 9) (S := fun w' => w'.cell? ⟨gb268, 0, none⟩ = some (.int .i64 a3_0) ∧ w'.cell? ⟨gb268, 1, none⟩ = some (.int .i64 a3_1)) (ds := []) #[false, false, false, false, false, false, false, false, false] (by kernel_rfl) rfl rfl ⟨(blk_cell BK268.out 0).trans rfl, (blk_cell BK268.out 1).trans rfl⟩ (fun hHeld => ?_); refine with_tabW remontoirlaw04_SpanCuts.tab3 remontoirlaw04_SpanCuts.bits3 (fun HT_ HW_ => ?_)
              generalize w68.drew = w69 at BK268 HB hHeld ⊢
              refine pure_ (i := 0) (N := some 18) (v := ?_) (a' := ?_) #[true, false, false, false, false, false, false, false, false] rfl rfl (any_of HT_.out (by kernel_rfl)) (fun _ _ _ h => h) (Or.inl ⟨by rfl, ?_⟩) ?_ ?_
              rotate_left
              · intro w'
                go_simp
                with_reducible rfl
              rotate_left
              · simp only [Act.put, List.setIfInBounds_toArray, List.set_cons_zero, List.set_cons_succ, i64_w, i32_w]
                rfl
              refine pure_ (i := 1) (N := some 19) (v := ?_) (a' := ?_) #[true, true, false, false, false, false, false, false, false] rfl rfl (any_of HT_.out (by kernel_rfl)) (fun _ _ _ h => h) (Or.inl ⟨by rfl, ?_⟩) ?_ ?_
              rotate_left
              · intro w'
                go_simp
                with_reducible rfl
              rotate_left
              · simp only [Act.put, List.setIfInBounds_toArray, List.set_cons_zero, List.set_cons_succ, i64_w, i32_w]
                rfl
              refine pure_ (i := 2) (N := some 20) (v := ?_) (a' := ?_) #[true, true, true, false, false, false, false, false, false] rfl rfl (any_of HT_.out (by kernel_rfl)) (fun _ _ _ h => h) (Or.inl ⟨by rfl, ?_⟩) ?_ ?_
              rotate_left
              · intro w'
                go_simp
                with_reducible rfl
              rotate_left
              · simp only [Act.put, List.setIfInBounds_toArray, List.set_cons_zero, List.set_cons_succ, i64_w, i32_w]
                rfl
              refine pure_ (i := 4) (N := some 22) (v := ?_) (a' := ?_) #[true, true, true, false, true, false, false, false, false] rfl rfl (any_of HT_.out (by kernel_rfl)) (fun _ _ _ h => h) (Or.inl ⟨by rfl, ?_⟩) ?_ ?_
              rotate_left
              · intro w'
                go_simp
                with_reducible rfl
              rotate_left
              · simp only [Act.put, List.setIfInBounds_toArray, List.set_cons_zero, List.set_cons_succ, i64_w, i32_w]
                rfl
              refine take_ (i := 5) (N := some 23) (v := ?_) (a' := ?_) #[true, true, true, false, true, true, false, false, false] rfl rfl (take_ofW HT_.out HW_.out (by kernel_rfl)) (fun _ _ _ h => h) (Or.inl ⟨by rfl, ?_⟩) hHeld ?_ ?_
              rotate_left
              · rintro w' ⟨s0, s1⟩
                go_simp
                with_reducible rfl
              rotate_left
              · simp only [Act.put, List.setIfInBounds_toArray, List.set_cons_zero, List.set_cons_succ, i64_w, i32_w]
                rfl
              refine one_ (i := 3) (N := some 21) #[true, true, true, true, true, true, false, false, false] rfl rfl (one_of HT_.out (by kernel_rfl)) (by decide) (fun K hK => ?_)
              refine goes_ Try.func23 (by kernel_rfl) rfl #[.slice A0 l0.length c0, .int .i64 a1, .int .i64 a2] (by rfl) rfl rfl (by (try simp only [List.map_toArray, List.map_cons, List.map_nil]); first | done | rfl | (simp only [List.length_drop, List.length_take]; rfl)) ?_
              with_reducible refine (span_Cut.calls k _ _ l0 a1 a2 t271 _ ?side1 ?side2 A11.out).mono ?_
              (case side1 => repeat (first | exact (Kd.C_below HR0.out HB.out) | (with_reducible refine Kd.C_alloc ?_ _) | (with_reducible refine Kd.C_drewN ?_ _) | (with_reducible refine Kd.C_drew ?_)))
              (case side2 => exact HC0.out)
              rintro e w70 ⟨v272, rfl, ho0, hb⟩
              refine ⟨_, rfl, ?_⟩
              have n0_ := Aside0.mk (Kd.R_lower (Kd.R_newB ho0 (g := gb268) (o := .cells #[.int .i64 a3_0, .int .i64 a3_1] 29 (0, 0)) (by (with_reducible repeat (first | refine blk_drewN ?_ _ | refine blk_drew ?_ | refine blk_alloc ?_ _)); exact BK268.out)) (below_size (by repeat (first | (with_reducible first | exact HB.out | apply below_alloc | apply pw_below_drewN | apply below_drew1 | refine below_set ?_ GE268.out) | exact HB.out))))
              have n1_ := Aside0.mk (blk_below (g := gb268) (o := .cells #[.int .i64 a3_0, .int .i64 a3_1] 29 (0, 0)) (by (with_reducible repeat (first | refine blk_drewN ?_ _ | refine blk_drew ?_ | refine blk_alloc ?_ _)); exact BK268.out) hb)
              have n2_ := Aside0.mk (below_step (by repeat (first | (with_reducible first | exact HB.out | apply below_alloc | apply pw_below_drewN | apply below_drew1 | refine below_set ?_ GE268.out) | exact HB.out)) hb)
              clear BK268
              clear HB
              have HO273 := n0_
              have BK268 := n1_
              have HB := n2_
              clear n0_ n1_ n2_
              (try clear hb)
              (try clear hb2)
              (try clear hk)
              (try clear hi)
              (try clear ho0)
              refine hK.out _ _ ⟨(blk_cell BK268.out 0).trans rfl, (blk_cell BK268.out 1).trans rfl⟩ (fun hHeld => ?_)
              clear hK K
              refine norm_ (a' := ?_) ?_ ?_
              rotate_left
              · show Act.put _ (some 21) _ = _
                simp only [Act.put, List.setIfInBounds_toArray, List.set_cons_zero, List.set_cons_succ, i64_w, i32_w]
                rfl
              refine one_ (i := 6) (N := some 24) #[true, true, true, true, true, true, true, false, false] rfl rfl (one_of HT_.out (by kernel_rfl)) (by decide) (fun K hK => ?_)
              refine goes_ Try.func35 (by kernel_rfl) rfl #[.slice A0 l0.length c0, .agg #[.int .i64 a3_0, .int .i64 a3_1]] (by rfl) rfl rfl (by (try simp only [List.map_toArray, List.map_cons, List.map_nil]); first | done | rfl | (simp only [List.length_drop, List.length_take]; rfl)) ?_
              with_reducible refine (span_Without.calls k _ _ l0 a3_0 a3_1 t274 _ ?side1 ?side2 A12.out).mono ?_
              (case side1 => repeat (first | exact (Kd.C_below HR0.out HB.out) | (with_reducible refine Kd.C_alloc ?_ _) | (with_reducible refine Kd.C_drewN ?_ _) | (with_reducible refine Kd.C_drew ?_)))
              (case side2 => exact HC0.out)
              rintro e w71 ⟨v275, rfl, ho0, hb⟩
              refine ⟨_, rfl, ?_⟩
              have n0_ := Aside0.mk (Kd.R_elder' (by (with_reducible repeat (first | apply Kd.R_alloc | apply Kd.R_drewN | apply Kd.R_drew)); exact HO273.out) (Kd.R_base ho0) hb)
              have n1_ := Aside0.mk (Kd.R_lower (Kd.R_newB (Kd.R_new' ho0 (Kd.R_lt (by (with_reducible repeat (first | apply Kd.R_alloc | apply Kd.R_drewN | apply Kd.R_drew)); exact HO273.out))) (g := gb268) (o := .cells #[.int .i64 a3_0, .int .i64 a3_1] 29 (0, 0)) (by (with_reducible repeat (first | refine blk_drewN ?_ _ | refine blk_drew ?_ | refine blk_alloc ?_ _)); exact BK268.out)) (below_size (by repeat (first | (with_reducible first | exact HB.out | apply below_alloc | apply pw_below_drewN | apply below_drew1 | refine below_set ?_ GE268.out) | exact HB.out))))
              have n2_ := Aside0.mk (blk_below (g := gb268) (o := .cells #[.int .i64 a3_0, .int .i64 a3_1] 29 (0, 0)) (by (with_reducible repeat (first | refine blk_drewN ?_ _ | refine blk_drew ?_ | refine blk_alloc ?_ _)); exact BK268.out) hb)
              have n3_ := Aside0.mk (below_step (by repeat (first | (with_reducible first | exact HB.out | apply below_alloc | apply pw_below_drewN | apply below_drew1 | refine below_set ?_ GE268.out) | exact HB.out)) hb)
              clear HO273
              clear BK268
              clear HB
              have HO273 := n0_
              have HO276 := n1_
              have BK268 := n2_
              have HB := n3_
              clear n0_ n1_ n2_ n3_
              (try clear hb)
              (try clear hb2)
              (try clear hk)
              (try clear hi)
              (try clear ho0)
              refine hK.out _ _ ⟨(blk_cell BK268.out 0).trans rfl, (blk_cell BK268.out 1).trans rfl⟩ (fun hHeld => ?_)
              clear hK K
              refine norm_ (a' := ?_) ?_ ?_
              rotate_left
              · show Act.put _ (some 24) _ = _
                simp only [Act.put, List.setIfInBounds_toArray, List.set_cons_zero, List.set_cons_succ, i64_w, i32_w]
                rfl
              refine pure_ (i := 7) (N := some 11) (v := ?_) (a' := ?_) #[true, true, true, true, true, true, true, true, false] rfl rfl (any_of HT_.out (by kernel_rfl)) (fun _ _ _ h => h) (Or.inl ⟨by rfl, ?_⟩) ?_ ?_
              rotate_left
              · intro w'
                go_simp
                with_reducible rfl
              rotate_left
              · simp only [Act.put, List.setIfInBounds_toArray, List.set_cons_zero, List.set_cons_succ, i64_w, i32_w]
                rfl
              refine pure_ (i := 8) (N := some 12) (v := ?_) (a' := ?_) #[true, true, true, true, true, true, true, true, true] rfl rfl (any_of HT_.out (by kernel_rfl)) (fun _ _ _ h => h) (Or.inl ⟨by rfl, ?_⟩) ?_ ?_
              rotate_left
              · intro w'
                go_simp
                with_reducible rfl
              rotate_left
              · simp only [Act.put, List.setIfInBounds_toArray, List.set_cons_zero, List.set_cons_succ, i64_w, i32_w]
                rfl
              refine done_ (done_of HT_.out (by kernel_rfl)) ?_
              try go_wp2_with (first | ((with_reducible refine gate_callee (f := 21) rfl ?_); refine goesL_ (some 27) rfl rfl Try.func21 (by kernel_rfl) rfl #[.slice A0 l0.length c0, .int .i64 a4] rfl (by (try simp only [List.map_toArray, List.map_cons, List.map_nil]); first | done | rfl | (simp only [List.length_drop, List.length_take]; rfl)) ?_; (with_reducible refine (remontoirref04_In.calls k _ _ l0 a4 false _ ?side1 ?side2 A13.out).mono ?_); (case side1 => repeat (first | exact (Kd.C_below HR0.out HB.out) | (with_reducible refine Kd.C_alloc ?_ _) | (with_reducible refine Kd.C_drewN ?_ _) | (with_reducible refine Kd.C_drew ?_))); (case side2 => exact HC0.out); rintro e w72 ⟨rfl, hb⟩; refine ⟨_, rfl, ?_⟩; have n0_ := Aside0.mk (Kd.R_below (by (with_reducible repeat (first | apply Kd.R_alloc | apply Kd.R_drewN | apply Kd.R_drew)); exact HO273.out) hb); have n1_ := Aside0.mk (Kd.R_below (by (with_reducible repeat (first | apply Kd.R_alloc | apply Kd.R_drewN | apply Kd.R_drew)); exact HO276.out) hb); have n2_ := Aside0.mk (blk_below (g := gb268) (o := .cells #[.int .i64 a3_0, .int .i64 a3_1] 29 (0, 0)) (by (with_reducible repeat (first | refine blk_drewN ?_ _ | refine blk_drew ?_ | refine blk_alloc ?_ _)); exact BK268.out) hb); have n3_ := Aside0.mk (below_step (by repeat (first | (with_reducible first | exact HB.out | apply below_alloc | apply pw_below_drewN | apply below_drew1 | refine below_set ?_ GE268.out) | exact HB.out)) hb); clear HO273; clear HO276; clear BK268; clear HB; have HO273 := n0_; have HO276 := n1_; have BK268 := n2_; have HB := n3_; clear n0_ n1_ n2_ n3_; (try clear hb); (try clear hb2); (try clear hk); (try clear hi); have hcz73_0 : w72.cell? ⟨gb268, 0, none⟩ = some (.int .i64 a3_0) := (blk_cell BK268.out 0).trans rfl; have hcz73_1 : w72.cell? ⟨gb268, 1, none⟩ = some (.int .i64 a3_1) := (blk_cell BK268.out 1).trans rfl; have hfz73_0 := blk_frozen BK268.out 0; have hfz73_1 := blk_frozen BK268.out 1) | ((with_reducible refine gate_dst (N := 29) rfl ?_); refine Kd.R_lit k29 _ 29 ?hg (N := 29) ?hd (xs := ([(⟨a3_0, a3_1⟩ : S29)] : List (S29))) (inner := [.int .i64 a3_0, .int .i64 a3_1]) (ok := fun _ => True) (okp := fun _ => True) ?hr ?hp (fun _ hk => hk) trivial (Below.refl _ _) (Nat.le_refl _) (by simp) ?_; (case hd => rfl); (case hg => rfl); (case hr => first | (go_simp; done) | (go_simp; rfl)); (case hp => exact (Reps.c2 (show Kd.M k29 _ _ _ (⟨a3_0, a3_1⟩ : S29) [.int .i64 a3_0, .int .i64 a3_1] from (k29_mkM _ _ _ (⟨a3_0, a3_1⟩ : S29) )) (Reps.none _ _))); intro v279 w74 ho75 hb hg_ hnew_; clear hg_ hnew_; (first | rw [← Ny278.out] at ho75 | (simp only [Int.reduceToNat] at ho75; rw [← Ny278.out] at ho75)); have n0_ := Aside0.mk (Kd.R_elder' (by (with_reducible repeat (first | apply Kd.R_alloc | apply Kd.R_drewN | apply Kd.R_drew)); exact HO273.out) (Kd.R_base ho75) hb); have n1_ := Aside0.mk (Kd.R_elder' (by (with_reducible repeat (first | apply Kd.R_alloc | apply Kd.R_drewN | apply Kd.R_drew)); exact HO276.out) (Kd.R_base ho75) hb); have n2_ := Aside0.mk (Kd.R_lower (Kd.R_newB (Kd.R_new' (Kd.R_new' ho75 (Kd.R_lt (by (with_reducible repeat (first | apply Kd.R_alloc | apply Kd.R_drewN | apply Kd.R_drew)); exact HO273.out))) (Kd.R_lt (by (with_reducible repeat (first | apply Kd.R_alloc | apply Kd.R_drewN | apply Kd.R_drew)); exact HO276.out))) (g := gb268) (o := .cells #[.int .i64 a3_0, .int .i64 a3_1] 29 (0, 0)) (by (with_reducible repeat (first | refine blk_drewN ?_ _ | refine blk_drew ?_ | refine blk_alloc ?_ _)); exact BK268.out)) (below_size (by repeat (first | (with_reducible first | exact HB.out | apply below_alloc | apply pw_below_drewN | apply below_drew1 | refine below_set ?_ GE268.out) | exact HB.out)))); have n3_ := Aside0.mk (blk_below (g := gb268) (o := .cells #[.int .i64 a3_0, .int .i64 a3_1] 29 (0, 0)) (by (with_reducible repeat (first | refine blk_drewN ?_ _ | refine blk_drew ?_ | refine blk_alloc ?_ _)); exact BK268.out) hb); have n4_ := Aside0.mk (below_step (by repeat (first | (with_reducible first | exact HB.out | apply below_alloc | apply pw_below_drewN | apply below_drew1 | refine below_set ?_ GE268.out) | exact HB.out)) hb); clear HO273; clear HO276; clear BK268; clear HB; have HO273 := n0_; have HO276 := n1_; have HO280 := n2_; have BK268 := n3_; have HB := n4_; clear n0_ n1_ n2_ n3_ n4_; clear hb ho75; obtain ⟨Ao76, co76, eo76⟩ := Kd.R_slice HO280.out; subst eo76) | ((with_reducible refine gate_callee (f := 21) rfl ?_); refine goesL_ (some 31) rfl rfl Try.func21 (by kernel_rfl) rfl #[.slice Ao76 y278.length co76, .int .i64 a4] rfl (by (try simp only [List.map_toArray, List.map_cons, List.map_nil]); first | done | rfl | (simp only [List.length_drop, List.length_take]; rfl)) ?_; (with_reducible refine (remontoirref04_In.calls k _ _ y278 a4 t281 _ ?side1 ?side2 A14.out).mono ?_); (case side1 => repeat (first | exact (Kd.R_reads' HO280.out).2.2 | (with_reducible refine Kd.C_alloc ?_ _) | (with_reducible refine Kd.C_drewN ?_ _) | (with_reducible refine Kd.C_drew ?_))); (case side2 => exact (Kd.R_reads' HO280.out).2.1); rintro e w77 ⟨rfl, hb⟩; refine ⟨_, rfl, ?_⟩; have n0_ := Aside0.mk (Kd.R_below (by (with_reducible repeat (first | apply Kd.R_alloc | apply Kd.R_drewN | apply Kd.R_drew)); exact HO273.out) hb); have n1_ := Aside0.mk (Kd.R_below (by (with_reducible repeat (first | apply Kd.R_alloc | apply Kd.R_drewN | apply Kd.R_drew)); exact HO276.out) hb); have n2_ := Aside0.mk (Kd.R_below (by (with_reducible repeat (first | apply Kd.R_alloc | apply Kd.R_drewN | apply Kd.R_drew)); exact HO280.out) hb); have n3_ := Aside0.mk (blk_below (g := gb268) (o := .cells #[.int .i64 a3_0, .int .i64 a3_1] 29 (0, 0)) (by (with_reducible repeat (first | refine blk_drewN ?_ _ | refine blk_drew ?_ | refine blk_alloc ?_ _)); exact BK268.out) hb); have n4_ := Aside0.mk (below_step (by repeat (first | (with_reducible first | exact HB.out | apply below_alloc | apply pw_below_drewN | apply below_drew1 | refine below_set ?_ GE268.out) | exact HB.out)) hb); clear HO273; clear HO276; clear HO280; clear BK268; clear HB; have HO273 := n0_; have HO276 := n1_; have HO280 := n2_; have BK268 := n3_; have HB := n4_; clear n0_ n1_ n2_ n3_ n4_; (try clear hb); (try clear hb2); (try clear hk); (try clear hi); obtain ⟨Ao78, co78, eo78⟩ := Kd.R_slice HO273.out; subst eo78) | ((with_reducible refine gate_callee (f := 16) rfl ?_); refine goesL_ (some 33) rfl rfl Try.func16 (by kernel_rfl) rfl #[.slice Ao78 t271.length co78] rfl (by (try simp only [List.map_toArray, List.map_cons, List.map_nil]); first | done | rfl | (simp only [List.length_drop, List.length_take]; rfl)) ?_; (with_reducible refine (remontoirref04_Right.calls k _ _ t271 true _ ?side1 ?side2 A15.out).mono ?_); (case side1 => repeat (first | exact (Kd.R_reads' HO273.out).2.2 | (with_reducible refine Kd.C_alloc ?_ _) | (with_reducible refine Kd.C_drewN ?_ _) | (with_reducible refine Kd.C_drew ?_))); (case side2 => exact (Kd.R_reads' HO273.out).2.1); rintro e w79 ⟨rfl, hb⟩; refine ⟨_, rfl, ?_⟩; have n0_ := Aside0.mk (Kd.R_below (by (with_reducible repeat (first | apply Kd.R_alloc | apply Kd.R_drewN | apply Kd.R_drew)); exact HO273.out) hb); have n1_ := Aside0.mk (Kd.R_below (by (with_reducible repeat (first | apply Kd.R_alloc | apply Kd.R_drewN | apply Kd.R_drew)); exact HO276.out) hb); have n2_ := Aside0.mk (Kd.R_below (by (with_reducible repeat (first | apply Kd.R_alloc | apply Kd.R_drewN | apply Kd.R_drew)); exact HO280.out) hb); have n3_ := Aside0.mk (blk_below (g := gb268) (o := .cells #[.int .i64 a3_0, .int .i64 a3_1] 29 (0, 0)) (by (with_reducible repeat (first | refine blk_drewN ?_ _ | refine blk_drew ?_ | refine blk_alloc ?_ _)); exact BK268.out) hb); have n4_ := Aside0.mk (below_step (by repeat (first | (with_reducible first | exact HB.out | apply below_alloc | apply pw_below_drewN | apply below_drew1 | refine below_set ?_ GE268.out) | exact HB.out)) hb); clear HO273; clear HO276; clear HO280; clear BK268; clear HB; have HO273 := n0_; have HO276 := n1_; have HO280 := n2_; have BK268 := n3_; have HB := n4_; clear n0_ n1_ n2_ n3_ n4_; (try clear hb); (try clear hb2); (try clear hk); (try clear hi); obtain ⟨Ao80, co80, eo80⟩ := Kd.R_slice HO276.out; subst eo80) | (go_at_call 16; (with_reducible refine (remontoirref04_Right.calls k _ _ t274 true _ ?side1 ?side2 A17.out).mono ?_); (case side1 => repeat (first | exact (Kd.R_reads' HO276.out).2.2 | (with_reducible refine Kd.C_alloc ?_ _) | (with_reducible refine Kd.C_drewN ?_ _) | (with_reducible refine Kd.C_drew ?_))); (case side2 => exact (Kd.R_reads' HO276.out).2.1); rintro e w81 ⟨rfl, hb⟩; have n0_ := Aside0.mk (Kd.R_below (by (with_reducible repeat (first | apply Kd.R_alloc | apply Kd.R_drewN | apply Kd.R_drew)); exact HO273.out) hb); have n1_ := Aside0.mk (Kd.R_below (by (with_reducible repeat (first | apply Kd.R_alloc | apply Kd.R_drewN | apply Kd.R_drew)); exact HO276.out) hb); have n2_ := Aside0.mk (Kd.R_below (by (with_reducible repeat (first | apply Kd.R_alloc | apply Kd.R_drewN | apply Kd.R_drew)); exact HO280.out) hb); have n3_ := Aside0.mk (blk_below (g := gb268) (o := .cells #[.int .i64 a3_0, .int .i64 a3_1] 29 (0, 0)) (by (with_reducible repeat (first | refine blk_drewN ?_ _ | refine blk_drew ?_ | refine blk_alloc ?_ _)); exact BK268.out) hb); have n4_ := Aside0.mk (below_step (by repeat (first | (with_reducible first | exact HB.out | apply below_alloc | apply pw_below_drewN | apply below_drew1 | refine below_set ?_ GE268.out) | exact HB.out)) hb); clear HO273; clear HO276; clear HO280; clear BK268; clear HB; have HO273 := n0_; have HO276 := n1_; have HO280 := n2_; have BK268 := n3_; have HB := n4_; clear n0_ n1_ n2_ n3_ n4_; (try clear hb); (try clear hb2); (try clear hk); (try clear hi)) | (go_at_call 21; (with_reducible refine (remontoirref04_In.calls k _ _ t271 a4 t284 _ ?side1 ?side2 A19.out).mono ?_); (case side1 => repeat (first | exact (Kd.R_reads' HO273.out).2.2 | (with_reducible refine Kd.C_alloc ?_ _) | (with_reducible refine Kd.C_drewN ?_ _) | (with_reducible refine Kd.C_drew ?_))); (case side2 => exact (Kd.R_reads' HO273.out).2.1); rintro e w82 ⟨rfl, hb⟩; have n0_ := Aside0.mk (Kd.R_below (by (with_reducible repeat (first | apply Kd.R_alloc | apply Kd.R_drewN | apply Kd.R_drew)); exact HO273.out) hb); have n1_ := Aside0.mk (Kd.R_below (by (with_reducible repeat (first | apply Kd.R_alloc | apply Kd.R_drewN | apply Kd.R_drew)); exact HO276.out) hb); have n2_ := Aside0.mk (Kd.R_below (by (with_reducible repeat (first | apply Kd.R_alloc | apply Kd.R_drewN | apply Kd.R_drew)); exact HO280.out) hb); have n3_ := Aside0.mk (blk_below (g := gb268) (o := .cells #[.int .i64 a3_0, .int .i64 a3_1] 29 (0, 0)) (by (with_reducible repeat (first | refine blk_drewN ?_ _ | refine blk_drew ?_ | refine blk_alloc ?_ _)); exact BK268.out) hb); have n4_ := Aside0.mk (below_step (by repeat (first | (with_reducible first | exact HB.out | apply below_alloc | apply pw_below_drewN | apply below_drew1 | refine below_set ?_ GE268.out) | exact HB.out)) hb); clear HO273; clear HO276; clear HO280; clear BK268; clear HB; have HO273 := n0_; have HO276 := n1_; have HO280 := n2_; have BK268 := n3_; have HB := n4_; clear n0_ n1_ n2_ n3_ n4_; (try clear hb); (try clear hb2); (try clear hk); (try clear hi)) | (go_at_call 21; (with_reducible refine (remontoirref04_In.calls k _ _ t274 a4 t289 _ ?side1 ?side2 A65.out).mono ?_); (case side1 => repeat (first | exact (Kd.R_reads' HO276.out).2.2 | (with_reducible refine Kd.C_alloc ?_ _) | (with_reducible refine Kd.C_drewN ?_ _) | (with_reducible refine Kd.C_drew ?_))); (case side2 => exact (Kd.R_reads' HO276.out).2.1); rintro e w83 ⟨rfl, hb⟩; have n0_ := Aside0.mk (Kd.R_below (by (with_reducible repeat (first | apply Kd.R_alloc | apply Kd.R_drewN | apply Kd.R_drew)); exact HO273.out) hb); have n1_ := Aside0.mk (Kd.R_below (by (with_reducible repeat (first | apply Kd.R_alloc | apply Kd.R_drewN | apply Kd.R_drew)); exact HO276.out) hb); have n2_ := Aside0.mk (Kd.R_below (by (with_reducible repeat (first | apply Kd.R_alloc | apply Kd.R_drewN | apply Kd.R_drew)); exact HO280.out) hb); have n3_ := Aside0.mk (blk_below (g := gb268) (o := .cells #[.int .i64 a3_0, .int .i64 a3_1] 29 (0, 0)) (by (with_reducible repeat (first | refine blk_drewN ?_ _ | refine blk_drew ?_ | refine blk_alloc ?_ _)); exact BK268.out) hb); have n4_ := Aside0.mk (below_step (by repeat (first | (with_reducible first | exact HB.out | apply below_alloc | apply pw_below_drewN | apply below_drew1 | refine below_set ?_ GE268.out) | exact HB.out)) hb); clear HO273; clear HO276; clear HO280; clear BK268; clear HB; have HO273 := n0_; have HO276 := n1_; have HO280 := n2_; have BK268 := n3_; have HB := n4_; clear n0_ n1_ n2_ n3_ n4_; (try clear hb); (try clear hb2); (try clear hk); (try clear hi)) | (go_at_call 14; (with_reducible refine (remontoirlaw04_knows.calls k  t290 _ A67.out).mono ?_); rintro e w84 ⟨rfl, hb⟩; have n0_ := Aside0.mk (Kd.R_below (by (with_reducible repeat (first | apply Kd.R_alloc | apply Kd.R_drewN | apply Kd.R_drew)); exact HO273.out) hb); have n1_ := Aside0.mk (Kd.R_below (by (with_reducible repeat (first | apply Kd.R_alloc | apply Kd.R_drewN | apply Kd.R_drew)); exact HO276.out) hb); have n2_ := Aside0.mk (Kd.R_below (by (with_reducible repeat (first | apply Kd.R_alloc | apply Kd.R_drewN | apply Kd.R_drew)); exact HO280.out) hb); have n3_ := Aside0.mk (blk_below (g := gb268) (o := .cells #[.int .i64 a3_0, .int .i64 a3_1] 29 (0, 0)) (by (with_reducible repeat (first | refine blk_drewN ?_ _ | refine blk_drew ?_ | refine blk_alloc ?_ _)); exact BK268.out) hb); have n4_ := Aside0.mk (below_step (by repeat (first | (with_reducible first | exact HB.out | apply below_alloc | apply pw_below_drewN | apply below_drew1 | refine below_set ?_ GE268.out) | exact HB.out)) hb); clear HO273; clear HO276; clear HO280; clear BK268; clear HB; have HO273 := n0_; have HO276 := n1_; have HO280 := n2_; have BK268 := n3_; have HB := n4_; clear n0_ n1_ n2_ n3_ n4_; (try clear hb); (try clear hb2); (try clear hk); (try clear hi)))
              go_ret
              exact ⟨by first | rfl | (rw [HR_.out] <;> rfl) | (simp [errW_none, errW_some] <;> rfl) | (simp [*, errW_none, errW_some] <;> rfl), by repeat (first | (with_reducible first | exact HB.out | apply below_alloc | apply pw_below_drewN | apply below_drew1 | refine below_set ?_ GE268.out) | exact HB.out)⟩
            · rw [if_neg c66] at H
              have c66b0 : (t289 == false) = false := by simpa using c66
              (try (have c66b1 : decide (t289 = false) = false := by simpa using c66))
              (try (have c66b2 : (t289 == false) = false := by simpa using c66))
              (try (have c66b3 : ¬ (t289 = false) := by simpa using c66))
              clear c66
              exact absurd H (by simp)
          · rw [if_neg c64] at H
            have c64b0 : (t284 == false) = false := by simpa using c64
            (try (have c64b1 : decide (t284 = false) = false := by simpa using c64))
            (try (have c64b2 : (t284 == false) = false := by simpa using c64))
            (try (have c64b3 : ¬ (t284 = false) := by simpa using c64))
            clear c64
            exact absurd H (by simp)
      · replace c18 := Bool.eq_false_iff.mpr c18
        subst c18
        have H1 : (some false) = some true := by rw [if_neg (show ¬ (false = true) by decide)] at H; exact H
        clear H
        have H := H1
        clear H1
        exact absurd H (by simp)
    · replace c16 := Bool.eq_false_iff.mpr c16
      subst c16
      have H1 : (some false) = some true := by rw [if_neg (show ¬ (false = true) by decide)] at H; exact H
      clear H
      have H := H1
      clear H1
      exact absurd H (by simp)

/-- The statement of remontoirlaw04_SpanCuts over plain data. -/
def remontoirlaw04_SpanCuts.Pure : Prop := ∀ (l0 : List (S29)) (a1 : Int) (a2 : Int) (a3_0 : Int) (a3_1 : Int) (a4 : Int), (l0.length ≤ 9223372036854775807 ∧ ∀ x ∈ l0, ((Lit.int .i64 x.f0).wf = true ∧ (Lit.int .i64 x.f1).wf = true)) → (Lit.int .i64 a1).wf = true → (Lit.int .i64 a2).wf = true → (Lit.int .i64 a3_0).wf = true → (Lit.int .i64 a3_1).wf = true → (Lit.int .i64 a4).wf = true → ∃ k, remontoirlaw04_SpanCuts.f k l0 a1 a2 a3_0 a3_1 a4 = some true

end Go.Proofs.Ytdfokaldjfpkhaa.FSpan
