-- Written by the session (wip/tools) for this claim: functions of the program as Lean functions, and their contracts.
import Derived.Test.YtdfokaldjfpkhaaFSpanx0
import Derived.Test.YtdfokaldjfpkhaaFSpanx2
import Derived.Test.YtdfokaldjfpkhaaFSpanx4
import Derived.Test.YtdfokaldjfpkhaaFSpanx5
import Derived.Test.YtdfokaldjfpkhaaFSpanx7
namespace Go.Proofs.Ytdfokaldjfpkhaa.FSpan
open Go.RowKit Go.Proofs.YtdfokaldjfpkhaaW.PrintWords Go.Proofs.YtdfokaldjfpkhaaW.PrintLast Go.Proofs.YtdfokaldjfpkhaaW.PrintMore
attribute [local go_sem] max2_int min2_int max_two min_two max_three min_three max_four min_four   -- for this text's walks alone
set_option linter.unusedVariables false
set_option linter.unusedSimpArgs false

/-! ### remontoirlaw04_SpanTicks: function 4 -/
def remontoirlaw04_SpanTicks.f (k : Nat) (l0 : List (S29)) (a1 : Int) : Option (Bool) := (remontoirlaw04_great.f l0).bind fun t217 => (if t217 = true then ((remontoirlaw04_knows.f k).bind fun t218 => (some t218)) else ((span_In.f k l0 a1).bind fun t219 => ((remontoirref04_In.f k l0 a1).bind fun t220 => (if (t219 == t220) = true then ((span_Norm.f k l0).bind fun t221 => ((span_In.f k t221 a1).bind fun t224 => ((remontoirref04_In.f k l0 a1).bind fun t225 => (if (t224 == t225) = true then ((remontoirlaw04_knows.f k).bind fun t226 => (some t226)) else (some false))))) else (some false)))))
theorem remontoirlaw04_SpanTicks.mono : ∀ a0 a1 k, LeO (remontoirlaw04_SpanTicks.f k a0 a1) (remontoirlaw04_SpanTicks.f (k + 1) a0 a1) := by
  intro a0 a1 k
  unfold remontoirlaw04_SpanTicks.f
  repeat' first
      | (with_reducible exact remontoirlaw04_knows.mono _)
      | (with_reducible exact remontoirref04_In.mono _ _ _)
      | (with_reducible exact span_In.mono _ _ _)
      | (with_reducible exact span_Norm.mono _ _)
      | (with_reducible exact LeO.refl _)
      | (with_reducible exact LeO.none _)
      | (with_reducible refine LeO.ite ?_ ?_)
      | (with_reducible refine LeO.bind ?_ (fun _ => ?_))
      | exact remontoirlaw04_knows.mono _
      | exact remontoirref04_In.mono _ _ _
      | exact span_In.mono _ _ _
      | exact span_Norm.mono _ _
      | exact LeO.none _
      | refine LeO.ite ?_ ?_
      | refine LeO.bind ?_ (fun _ => ?_)
set_option maxHeartbeats 8000000 in
set_option maxRecDepth 100000 in
theorem remontoirlaw04_SpanTicks.calls (k : Nat) (A0 : Option Addr) (c0 : Nat) (l0 : List (S29)) (a1 : Int) (w : World) (hr0 : Kd.C k29 w A0 l0.length l0) (hc0 : l0.length ≤ c0) (h : remontoirlaw04_SpanTicks.f k l0 a1 = some true) :
    Calls Try.prog 4 #[.slice A0 l0.length c0, .int .i64 a1] w fun e w' => e = .returned (.bool true) ∧ Below w.heap.size w w' := by
  have HR0 := Aside0.mk hr0
  have HC0 := Aside0.mk hc0
  clear hr0 hc0
  have HB := Aside0.mk (Below.refl w.heap.size w)
  have H : ((remontoirlaw04_great.f l0).bind fun t217 => (if t217 = true then ((remontoirlaw04_knows.f k).bind fun t218 => (some t218)) else ((span_In.f k l0 a1).bind fun t219 => ((remontoirref04_In.f k l0 a1).bind fun t220 => (if (t219 == t220) = true then ((span_Norm.f k l0).bind fun t221 => ((span_In.f k t221 a1).bind fun t224 => ((remontoirref04_In.f k l0 a1).bind fun t225 => (if (t224 == t225) = true then ((remontoirlaw04_knows.f k).bind fun t226 => (some t226)) else (some false))))) else (some false)))))) = some true := h
  clear h
  replace H := Option.bind_eq_some_iff.mp H
  obtain ⟨t217, A30, H⟩ := H
  replace H : (if t217 = true then ((remontoirlaw04_knows.f k).bind fun t218 => (some t218)) else ((span_In.f k l0 a1).bind fun t219 => ((remontoirref04_In.f k l0 a1).bind fun t220 => (if (t219 == t220) = true then ((span_Norm.f k l0).bind fun t221 => ((span_In.f k t221 a1).bind fun t224 => ((remontoirref04_In.f k l0 a1).bind fun t225 => (if (t224 == t225) = true then ((remontoirlaw04_knows.f k).bind fun t226 => (some t226)) else (some false))))) else (some false))))) = some true := H
  have A3 := Aside0.mk A30
  clear A30
  by_cases c4 : t217 = true
  · subst c4
    have H1 : ((remontoirlaw04_knows.f k).bind fun t218 => (some t218)) = some true := by rw [if_pos rfl] at H; exact H
    clear H
    have H := H1
    clear H1
    replace H := Option.bind_eq_some_iff.mp H
    obtain ⟨t218, A50, H⟩ := H
    replace H : (some t218) = some true := H
    have A5 := Aside0.mk A50
    clear A50
    have HR_ := Aside0.mk (Option.some.inj H)
    clear H
    go_enter Try.func4, Try.ntmps4
    go_wp2_with (first | ((with_reducible refine gate_callee (f := 13) rfl ?_); refine goesL_ (some 6) rfl rfl Try.func13 (by kernel_rfl) rfl #[.slice A0 l0.length c0] rfl (by (try simp only [List.map_toArray, List.map_cons, List.map_nil]); first | done | rfl | (simp only [List.length_drop, List.length_take]; rfl)) ?_; (with_reducible refine (remontoirlaw04_great.calls _ _ l0 true _ ?side1 ?side2 A3.out).mono ?_); (case side1 => repeat (first | exact HR0.out | (with_reducible refine Kd.C_alloc ?_ _) | (with_reducible refine Kd.C_drewN ?_ _) | (with_reducible refine Kd.C_drew ?_))); (case side2 => exact HC0.out); rintro e w' ⟨rfl, ⟨nd, rfl⟩⟩; refine ⟨_, rfl, ?_⟩) | ((with_reducible refine gate_callee (f := 14) rfl ?_); refine goesL_ (some 7) rfl rfl Try.func14 (by kernel_rfl) rfl #[] rfl (by (try simp only [List.map_toArray, List.map_cons, List.map_nil]); first | done | rfl | (simp only [List.length_drop, List.length_take]; rfl)) ?_; (with_reducible refine (remontoirlaw04_knows.calls k  t218 _ A5.out).mono ?_); rintro e w6 ⟨rfl, hb⟩; refine ⟨_, rfl, ?_⟩; have n0_ := Aside0.mk (below_step (by repeat (first | (with_reducible first | exact HB.out | apply below_alloc | apply pw_below_drewN | apply below_drew1) | exact HB.out)) hb); clear HB; have HB := n0_; clear n0_; (try clear hb); (try clear hb2); (try clear hk); (try clear hi)))
    go_ret
    exact ⟨by first | rfl | (rw [HR_.out] <;> rfl) | (simp [errW_none, errW_some] <;> rfl) | (simp [*, errW_none, errW_some] <;> rfl), by repeat (first | (with_reducible first | exact HB.out | apply below_alloc | apply pw_below_drewN | apply below_drew1) | exact HB.out)⟩
  · replace c4 := Bool.eq_false_iff.mpr c4
    subst c4
    have H1 : ((span_In.f k l0 a1).bind fun t219 => ((remontoirref04_In.f k l0 a1).bind fun t220 => (if (t219 == t220) = true then ((span_Norm.f k l0).bind fun t221 => ((span_In.f k t221 a1).bind fun t224 => ((remontoirref04_In.f k l0 a1).bind fun t225 => (if (t224 == t225) = true then ((remontoirlaw04_knows.f k).bind fun t226 => (some t226)) else (some false))))) else (some false)))) = some true := by rw [if_neg (show ¬ (false = true) by decide)] at H; exact H
    clear H
    have H := H1
    clear H1
    replace H := Option.bind_eq_some_iff.mp H
    obtain ⟨t219, A70, H⟩ := H
    replace H : ((remontoirref04_In.f k l0 a1).bind fun t220 => (if (t219 == t220) = true then ((span_Norm.f k l0).bind fun t221 => ((span_In.f k t221 a1).bind fun t224 => ((remontoirref04_In.f k l0 a1).bind fun t225 => (if (t224 == t225) = true then ((remontoirlaw04_knows.f k).bind fun t226 => (some t226)) else (some false))))) else (some false))) = some true := H
    have A7 := Aside0.mk A70
    clear A70
    replace H := Option.bind_eq_some_iff.mp H
    obtain ⟨t220, A80, H⟩ := H
    replace H : (if (t219 == t220) = true then ((span_Norm.f k l0).bind fun t221 => ((span_In.f k t221 a1).bind fun t224 => ((remontoirref04_In.f k l0 a1).bind fun t225 => (if (t224 == t225) = true then ((remontoirlaw04_knows.f k).bind fun t226 => (some t226)) else (some false))))) else (some false)) = some true := H
    have A8 := Aside0.mk A80
    clear A80
    by_cases c9 : (t219 == t220) = true
    · rw [if_pos c9] at H
      have c9b0 : (t219 == t220) = true := c9
      (try (have c9b1 : decide (t219 = t220) = true := by simpa using c9))
      (try (have c9b2 : (t219 == t220) = true := by simpa using c9))
      clear c9
      replace H := Option.bind_eq_some_iff.mp H
      obtain ⟨t221, A100, H⟩ := H
      replace H : ((span_In.f k t221 a1).bind fun t224 => ((remontoirref04_In.f k l0 a1).bind fun t225 => (if (t224 == t225) = true then ((remontoirlaw04_knows.f k).bind fun t226 => (some t226)) else (some false)))) = some true := H
      have A10 := Aside0.mk A100
      clear A100
      replace H := Option.bind_eq_some_iff.mp H
      obtain ⟨t224, A110, H⟩ := H
      replace H : ((remontoirref04_In.f k l0 a1).bind fun t225 => (if (t224 == t225) = true then ((remontoirlaw04_knows.f k).bind fun t226 => (some t226)) else (some false))) = some true := H
      have A11 := Aside0.mk A110
      clear A110
      replace H := Option.bind_eq_some_iff.mp H
      obtain ⟨t225, A120, H⟩ := H
      replace H : (if (t224 == t225) = true then ((remontoirlaw04_knows.f k).bind fun t226 => (some t226)) else (some false)) = some true := H
      have A12 := Aside0.mk A120
      clear A120
      by_cases c13 : (t224 == t225) = true
      · rw [if_pos c13] at H
        have c13b0 : (t224 == t225) = true := c13
        (try (have c13b1 : decide (t224 = t225) = true := by simpa using c13))
        (try (have c13b2 : (t224 == t225) = true := by simpa using c13))
        clear c13
        replace H := Option.bind_eq_some_iff.mp H
        obtain ⟨t226, A140, H⟩ := H
        replace H : (some t226) = some true := H
        have A14 := Aside0.mk A140
        clear A140
        have HR_ := Aside0.mk (Option.some.inj H)
        clear H
        go_enter Try.func4, Try.ntmps4
        go_wp2_with (first | ((with_reducible refine gate_callee (f := 13) rfl ?_); refine goesL_ (some 6) rfl rfl Try.func13 (by kernel_rfl) rfl #[.slice A0 l0.length c0] rfl (by (try simp only [List.map_toArray, List.map_cons, List.map_nil]); first | done | rfl | (simp only [List.length_drop, List.length_take]; rfl)) ?_; (with_reducible refine (remontoirlaw04_great.calls _ _ l0 false _ ?side1 ?side2 A3.out).mono ?_); (case side1 => repeat (first | exact HR0.out | (with_reducible refine Kd.C_alloc ?_ _) | (with_reducible refine Kd.C_drewN ?_ _) | (with_reducible refine Kd.C_drew ?_))); (case side2 => exact HC0.out); rintro e w' ⟨rfl, ⟨nd, rfl⟩⟩; refine ⟨_, rfl, ?_⟩) | ((with_reducible refine gate_callee (f := 20) rfl ?_); refine goesL_ (some 10) rfl rfl Try.func20 (by kernel_rfl) rfl #[.slice A0 l0.length c0, .int .i64 a1] rfl (by (try simp only [List.map_toArray, List.map_cons, List.map_nil]); first | done | rfl | (simp only [List.length_drop, List.length_take]; rfl)) ?_; (with_reducible refine (span_In.calls k _ _ l0 a1 t219 _ ?side1 ?side2 A7.out).mono ?_); (case side1 => repeat (first | exact HR0.out | (with_reducible refine Kd.C_alloc ?_ _) | (with_reducible refine Kd.C_drewN ?_ _) | (with_reducible refine Kd.C_drew ?_))); (case side2 => exact HC0.out); rintro e w15 ⟨rfl, hb⟩; refine ⟨_, rfl, ?_⟩; have n0_ := Aside0.mk (below_step (by repeat (first | (with_reducible first | exact HB.out | apply below_alloc | apply pw_below_drewN | apply below_drew1) | exact HB.out)) hb); clear HB; have HB := n0_; clear n0_; (try clear hb); (try clear hb2); (try clear hk); (try clear hi)) | ((with_reducible refine gate_callee (f := 21) rfl ?_); refine goesL_ (some 13) rfl rfl Try.func21 (by kernel_rfl) rfl #[.slice A0 l0.length c0, .int .i64 a1] rfl (by (try simp only [List.map_toArray, List.map_cons, List.map_nil]); first | done | rfl | (simp only [List.length_drop, List.length_take]; rfl)) ?_; (with_reducible refine (remontoirref04_In.calls k _ _ l0 a1 t220 _ ?side1 ?side2 A8.out).mono ?_); (case side1 => repeat (first | exact (Kd.C_below HR0.out HB.out) | (with_reducible refine Kd.C_alloc ?_ _) | (with_reducible refine Kd.C_drewN ?_ _) | (with_reducible refine Kd.C_drew ?_))); (case side2 => exact HC0.out); rintro e w16 ⟨rfl, hb⟩; refine ⟨_, rfl, ?_⟩; have n0_ := Aside0.mk (below_step (by repeat (first | (with_reducible first | exact HB.out | apply below_alloc | apply pw_below_drewN | apply below_drew1) | exact HB.out)) hb); clear HB; have HB := n0_; clear n0_; (try clear hb); (try clear hb2); (try clear hk); (try clear hi)) | (go_at_call 18; (with_reducible refine (span_Norm.calls k _ _ l0 t221 _ ?side1 ?side2 A10.out).mono ?_); (case side1 => repeat (first | exact (Kd.C_below HR0.out HB.out) | (with_reducible refine Kd.C_alloc ?_ _) | (with_reducible refine Kd.C_drewN ?_ _) | (with_reducible refine Kd.C_drew ?_))); (case side2 => exact HC0.out); rintro e w17 ⟨v222, rfl, ho0, hb⟩; have n0_ := Aside0.mk (Kd.R_lower ho0 (below_size (by repeat (first | (with_reducible first | exact HB.out | apply below_alloc | apply pw_below_drewN | apply below_drew1) | exact HB.out)))); have n1_ := Aside0.mk (below_step (by repeat (first | (with_reducible first | exact HB.out | apply below_alloc | apply pw_below_drewN | apply below_drew1) | exact HB.out)) hb); clear HB; have HO223 := n0_; have HB := n1_; clear n0_ n1_; (try clear hb); (try clear hb2); (try clear hk); (try clear hi); (try clear ho0); obtain ⟨Ao18, co18, eo18⟩ := Kd.R_slice HO223.out; subst eo18) | (go_at_call 20; (with_reducible refine (span_In.calls k _ _ t221 a1 t224 _ ?side1 ?side2 A11.out).mono ?_); (case side1 => repeat (first | exact (Kd.R_reads' HO223.out).2.2 | (with_reducible refine Kd.C_alloc ?_ _) | (with_reducible refine Kd.C_drewN ?_ _) | (with_reducible refine Kd.C_drew ?_))); (case side2 => exact (Kd.R_reads' HO223.out).2.1); rintro e w19 ⟨rfl, hb⟩; have n0_ := Aside0.mk (Kd.R_below (by (with_reducible repeat (first | apply Kd.R_alloc | apply Kd.R_drewN | apply Kd.R_drew)); exact HO223.out) hb); have n1_ := Aside0.mk (below_step (by repeat (first | (with_reducible first | exact HB.out | apply below_alloc | apply pw_below_drewN | apply below_drew1) | exact HB.out)) hb); clear HO223; clear HB; have HO223 := n0_; have HB := n1_; clear n0_ n1_; (try clear hb); (try clear hb2); (try clear hk); (try clear hi)) | (go_at_call 21; (with_reducible refine (remontoirref04_In.calls k _ _ l0 a1 t225 _ ?side1 ?side2 A12.out).mono ?_); (case side1 => repeat (first | exact (Kd.C_below HR0.out HB.out) | (with_reducible refine Kd.C_alloc ?_ _) | (with_reducible refine Kd.C_drewN ?_ _) | (with_reducible refine Kd.C_drew ?_))); (case side2 => exact HC0.out); rintro e w20 ⟨rfl, hb⟩; have n0_ := Aside0.mk (Kd.R_below (by (with_reducible repeat (first | apply Kd.R_alloc | apply Kd.R_drewN | apply Kd.R_drew)); exact HO223.out) hb); have n1_ := Aside0.mk (below_step (by repeat (first | (with_reducible first | exact HB.out | apply below_alloc | apply pw_below_drewN | apply below_drew1) | exact HB.out)) hb); clear HO223; clear HB; have HO223 := n0_; have HB := n1_; clear n0_ n1_; (try clear hb); (try clear hb2); (try clear hk); (try clear hi)) | (go_at_call 14; (with_reducible refine (remontoirlaw04_knows.calls k  t226 _ A14.out).mono ?_); rintro e w21 ⟨rfl, hb⟩; have n0_ := Aside0.mk (Kd.R_below (by (with_reducible repeat (first | apply Kd.R_alloc | apply Kd.R_drewN | apply Kd.R_drew)); exact HO223.out) hb); have n1_ := Aside0.mk (below_step (by repeat (first | (with_reducible first | exact HB.out | apply below_alloc | apply pw_below_drewN | apply below_drew1) | exact HB.out)) hb); clear HO223; clear HB; have HO223 := n0_; have HB := n1_; clear n0_ n1_; (try clear hb); (try clear hb2); (try clear hk); (try clear hi)))
        go_ret
        exact ⟨by first | rfl | (rw [HR_.out] <;> rfl) | (simp [errW_none, errW_some] <;> rfl) | (simp [*, errW_none, errW_some] <;> rfl), by repeat (first | (with_reducible first | exact HB.out | apply below_alloc | apply pw_below_drewN | apply below_drew1) | exact HB.out)⟩
      · rw [if_neg c13] at H
        have c13b0 : (t224 == t225) = false := by simpa using c13
        (try (have c13b1 : decide (t224 = t225) = false := by simpa using c13))
        (try (have c13b2 : (t224 == t225) = false := by simpa using c13))
        (try (have c13b3 : ¬ (t224 = t225) := by simpa using c13))
        clear c13
        exact absurd H (by simp)
    · rw [if_neg c9] at H
      have c9b0 : (t219 == t220) = false := by simpa using c9
      (try (have c9b1 : decide (t219 = t220) = false := by simpa using c9))
      (try (have c9b2 : (t219 == t220) = false := by simpa using c9))
      (try (have c9b3 : ¬ (t219 = t220) := by simpa using c9))
      clear c9
      exact absurd H (by simp)

/-- The statement of remontoirlaw04_SpanTicks over plain data. -/
def remontoirlaw04_SpanTicks.Pure : Prop := ∀ (l0 : List (S29)) (a1 : Int), (l0.length ≤ 9223372036854775807 ∧ ∀ x ∈ l0, ((Lit.int .i64 x.f0).wf = true ∧ (Lit.int .i64 x.f1).wf = true)) → (Lit.int .i64 a1).wf = true → ∃ k, remontoirlaw04_SpanTicks.f k l0 a1 = some true

/-! ### span_Cut: function 23 -/
def span_Cut.l0 : Nat → Int → Int → List (S29) → List (S29) → Int → Int → Option ((List (S29)))
  | 0, _, _, _, _, _, _ => none
  | k + 1, x1, x2, x7, x12, x13, x14 => if x14 < x13 then (if 0 ≤ x14 then (if x14 < (x12.length : Int) then ((span_may.f (mx ((rd_T29 x12 x14).f0) x1) (mn ((rd_T29 x12 x14).f1) x2)).bind fun t233 => (if t233 = true then (if x7.length < 8796093022208 then (span_Cut.l0 k x1 x2 (x7 ++ [(⟨mx ((rd_T29 x12 x14).f0) x1, mn ((rd_T29 x12 x14).f1) x2⟩ : S29)]) x12 x13 (wrap64 (x14 + 1))) else (none)) else (span_Cut.l0 k x1 x2 x7 x12 x13 (wrap64 (x14 + 1))))) else (none)) else (none)) else (some x7)
def span_Cut.f (k : Nat) (l0 : List (S29)) (a1 : Int) (a2 : Int) : Option ((List (S29))) := (span_Norm.f k l0).bind fun t227 => (span_Cut.l0 k a1 a2 ([] : List (S29)) t227 (t227.length : Int) 0)
theorem span_Cut.mono_l : ∀ k, (∀ y0 y1 y2 y3 y4 y5, LeO (span_Cut.l0 k y0 y1 y2 y3 y4 y5) (span_Cut.l0 (k + 1) y0 y1 y2 y3 y4 y5))
  | 0 => fun _ _ _ _ _ _ r h => by simp [span_Cut.l0] at h
  | k + 1 => by
    have ih0 := span_Cut.mono_l k
    · intro y0 y1 y2 y3 y4 y5
      unfold span_Cut.l0
      repeat' first
      | (with_reducible exact ih0 _ _ _ _ _ _)
      | (with_reducible exact span_Norm.mono _ _)
      | (with_reducible exact LeO.refl _)
      | (with_reducible exact LeO.none _)
      | (with_reducible refine LeO.ite ?_ ?_)
      | (with_reducible refine LeO.bind ?_ (fun _ => ?_))
      | exact ih0 _ _ _ _ _ _
      | exact span_Norm.mono _ _
      | exact LeO.none _
      | refine LeO.ite ?_ ?_
      | refine LeO.bind ?_ (fun _ => ?_)
theorem span_Cut.mono : ∀ a0 a1 a2 k, LeO (span_Cut.f k a0 a1 a2) (span_Cut.f (k + 1) a0 a1 a2) := by
  intro a0 a1 a2 k
  have ih0 := span_Cut.mono_l k
  unfold span_Cut.f
  repeat' first
      | (with_reducible exact ih0 _ _ _ _ _ _)
      | (with_reducible exact span_Norm.mono _ _)
      | (with_reducible exact LeO.refl _)
      | (with_reducible exact LeO.none _)
      | (with_reducible refine LeO.ite ?_ ?_)
      | (with_reducible refine LeO.bind ?_ (fun _ => ?_))
      | exact ih0 _ _ _ _ _ _
      | exact span_Norm.mono _ _
      | exact LeO.none _
      | refine LeO.ite ?_ ?_
      | refine LeO.bind ?_ (fun _ => ?_)
set_option maxHeartbeats 8000000 in
set_option maxRecDepth 100000 in
theorem span_Cut.calls (k : Nat) (A0 : Option Addr) (c0 : Nat) (l0 : List (S29)) (a1 : Int) (a2 : Int) (r : List (S29)) (w : World) (hr0 : Kd.C k29 w A0 l0.length l0) (hc0 : l0.length ≤ c0) (h : span_Cut.f k l0 a1 a2 = some r) :
    Calls Try.prog 23 #[.slice A0 l0.length c0, .int .i64 a1, .int .i64 a2] w fun e w' => ∃ v0_ : Value, e = .returned (v0_) ∧ Kd.R k29 29 w' w.heap.size (fun _ => True) v0_ r ∧ Below w.heap.size w w' := by
  have hu29 := Try.underlying29
  have HR0 := Aside0.mk hr0
  have HC0 := Aside0.mk hc0
  clear hr0 hc0
  have HB := Aside0.mk (Below.refl w.heap.size w)
  have H : ((span_Norm.f k l0).bind fun t227 => (span_Cut.l0 k a1 a2 ([] : List (S29)) t227 (t227.length : Int) 0)) = some r := h
  clear h
  replace H := Option.bind_eq_some_iff.mp H
  obtain ⟨t227, A40, H⟩ := H
  replace H : (span_Cut.l0 k a1 a2 ([] : List (S29)) t227 (t227.length : Int) 0) = some r := H
  have A4 := Aside0.mk A40
  clear A40
  have H' := Aside0.mk H
  clear H
  go_enter Try.func23, Try.ntmps23
  go_wp2_with (first | ((with_reducible refine gate_callee (f := 18) rfl ?_); refine goesL_ (some 12) rfl rfl Try.func18 (by kernel_rfl) rfl #[.slice A0 l0.length c0] rfl (by (try simp only [List.map_toArray, List.map_cons, List.map_nil]); first | done | rfl | (simp only [List.length_drop, List.length_take]; rfl)) ?_; (with_reducible refine (span_Norm.calls k _ _ l0 t227 _ ?side1 ?side2 A4.out).mono ?_); (case side1 => repeat (first | exact HR0.out | (with_reducible refine Kd.C_alloc ?_ _) | (with_reducible refine Kd.C_drewN ?_ _) | (with_reducible refine Kd.C_drew ?_))); (case side2 => exact HC0.out); rintro e w5 ⟨v228, rfl, ho0, hb⟩; refine ⟨_, rfl, ?_⟩; have n0_ := Aside0.mk (Kd.R_lower ho0 (below_size (by repeat (first | (with_reducible first | exact HB.out | apply below_alloc | apply pw_below_drewN | apply below_drew1) | exact HB.out)))); have n1_ := Aside0.mk (below_step (by repeat (first | (with_reducible first | exact HB.out | apply below_alloc | apply pw_below_drewN | apply below_drew1) | exact HB.out)) hb); clear HB; have HO229 := n0_; have HB := n1_; clear n0_ n1_; (try clear hb); (try clear hb2); (try clear hk); (try clear hi); (try clear ho0); obtain ⟨Ao6, co6, eo6⟩ := Kd.R_slice HO229.out; subst eo6))
  go_loopg [7, 14] k (fun kq v7 v14 w' => ∃ (x7_1 : List (S29)) (x14_1 : Int), v14 = .int .i64 x14_1 ∧ Aside0 (span_Cut.l0 kq a1 a2 x7_1 t227 (t227.length : Int) x14_1 = some r) ∧ Aside0 (kq ≤ k) ∧ Aside0 (Kd.R k29 29 w' w.heap.size (fun k_ => some k_ ≠ ((.slice Ao6 t227.length co6) : Value).ownBlock) v7 x7_1) ∧ Aside0 (Kd.R k29 29 w' w.heap.size (fun k_ => some k_ ≠ (v7 : Value).ownBlock) (.slice Ao6 t227.length co6) t227) ∧ Aside0 (Below w.heap.size w w'))
  case atStart => exact ⟨(([] : List (S29))), (0), (by first | rfl | (simp; done) | (simp [*]; done)), H', ⟨Nat.le_refl _⟩, ⟨by first | exact Kd.R_nil _ _ _ _ _ | exact Kd.N_nil _ _ _ _ _ | exact Kd.V_nil _ _ _ _ _ | exact Kd.Q_nil _ _ _ _ _ | exact Kd.S_nil _ _ _ _ _⟩, ⟨by (with_reducible repeat (first | apply Kd.R_alloc | apply Kd.R_drewN | apply Kd.R_drew)); exact Kd.R_mono HO229.out (fun _ hk => (by simp [Value.ownBlock]))⟩, ⟨by repeat (first | (with_reducible first | exact HB.out | apply below_alloc | apply pw_below_drewN | apply below_drew1) | exact HB.out)⟩⟩
  case round =>
    clear H'
    try clear c1
    try clear c2
    try clear p2
    obtain ⟨x7_1, x14_1, rfl, HA, HK1, HO_7, HO_12, HB⟩ := hrel
    cases gk with
    | zero => exact absurd HA.out (by simp [span_Cut.l0])
    | succ k1 =>
      have H := HA.out
      clear HA
      simp only [span_Cut.l0] at H
      by_cases c7 : x14_1 < (t227.length : Int)
      · rw [if_pos c7] at H
        have c7b0 : decide (x14_1 < (t227.length : Int)) = true := decide_eq_true c7
        clear c7
        by_cases c8 : 0 ≤ x14_1
        · rw [if_pos c8] at H
          have c8b0 : decide (0 ≤ x14_1) = true := decide_eq_true c8
          clear c8
          by_cases c9 : x14_1 < (t227.length : Int)
          · rw [if_pos c9] at H
            have c9b0 : decide (x14_1 < (t227.length : Int)) = true := decide_eq_true c9
            clear c9
            obtain ⟨ji10, hji10⟩ : ∃ j_ : Int, (mx ((rd_T29 t227 x14_1).f0) a1) = j_ := ⟨_, rfl⟩
            replace H : ((span_may.f (ji10) (mn ((rd_T29 t227 x14_1).f1) a2)).bind fun t233 => (if t233 = true then (if x7_1.length < 8796093022208 then (span_Cut.l0 k1 a1 a2 (x7_1 ++ [(⟨ji10, mn ((rd_T29 t227 x14_1).f1) a2⟩ : S29)]) t227 (t227.length : Int) (wrap64 (x14_1 + 1))) else (none)) else (span_Cut.l0 k1 a1 a2 x7_1 t227 (t227.length : Int) (wrap64 (x14_1 + 1))))) = some r := by first | (rw [hji10] at H; exact H) | (simp only [hji10] at H ⊢; exact H)
            have hji10_ : (if ((rd_T29 t227 x14_1).f0) < a1 then a1 else ((rd_T29 t227 x14_1).f0)) = ji10 := hji10
            obtain ⟨ji11, hji11⟩ : ∃ j_ : Int, (mn ((rd_T29 t227 x14_1).f1) a2) = j_ := ⟨_, rfl⟩
            replace H : ((span_may.f (ji10) (ji11)).bind fun t233 => (if t233 = true then (if x7_1.length < 8796093022208 then (span_Cut.l0 k1 a1 a2 (x7_1 ++ [(⟨ji10, ji11⟩ : S29)]) t227 (t227.length : Int) (wrap64 (x14_1 + 1))) else (none)) else (span_Cut.l0 k1 a1 a2 x7_1 t227 (t227.length : Int) (wrap64 (x14_1 + 1))))) = some r := by first | (rw [hji11] at H; exact H) | (simp only [hji11] at H ⊢; exact H)
            have hji11_ : (if a2 < ((rd_T29 t227 x14_1).f1) then a2 else ((rd_T29 t227 x14_1).f1)) = ji11 := hji11
            replace H := Option.bind_eq_some_iff.mp H
            obtain ⟨t233, A120, H⟩ := H
            replace H : (if t233 = true then (if x7_1.length < 8796093022208 then (span_Cut.l0 k1 a1 a2 (x7_1 ++ [(⟨ji10, ji11⟩ : S29)]) t227 (t227.length : Int) (wrap64 (x14_1 + 1))) else (none)) else (span_Cut.l0 k1 a1 a2 x7_1 t227 (t227.length : Int) (wrap64 (x14_1 + 1)))) = some r := H
            have A12 := Aside0.mk A120
            clear A120
            by_cases c13 : t233 = true
            · subst c13
              have H1 : (if x7_1.length < 8796093022208 then (span_Cut.l0 k1 a1 a2 (x7_1 ++ [(⟨ji10, ji11⟩ : S29)]) t227 (t227.length : Int) (wrap64 (x14_1 + 1))) else (none)) = some r := by rw [if_pos rfl] at H; exact H
              clear H
              have H := H1
              clear H1
              by_cases c14 : x7_1.length < 8796093022208
              · rw [if_pos c14] at H
                have LMc14 := Aside0.mk c14
                clear c14
                obtain ⟨y234, hy234⟩ : ∃ y_ : List (S29), y_ = (x7_1 ++ [(⟨ji10, ji11⟩ : S29)]) := ⟨_, rfl⟩
                replace H : (span_Cut.l0 k1 a1 a2 y234 t227 (t227.length : Int) (wrap64 (x14_1 + 1))) = some r := by first | (rw [hy234]; with_reducible exact H) | (have H2_ := (Option.bind_some _ _).symm.trans H; rw [hy234]; with_reducible exact H2_) | (have H2_ := (Option.bind_some _ _).symm.trans H; with_reducible exact H2_) | with_reducible exact H | (rw [hy234]; exact H) | exact H
                have Ny234 := Aside0.mk hy234
                clear hy234
                have H' := Aside0.mk H
                clear H
                have p230 : 0 ≤ (x14_1 : Int) := of_decide_eq_true (by first | (with_reducible assumption) | assumption)
                have q230 : x14_1 < (t227.length : Int) := of_decide_eq_true (by first | (with_reducible assumption) | assumption)
                obtain ⟨ad230, e230, hx230_0, hx230_1⟩ := at_T29 (Kd.R_reads' HO_12.out).2.2 x14_1 p230 q230
                cases e230
                replace p230 := eq_true p230
                replace q230 := eq_true q230
                go_wp2_with (first | ((with_reducible refine gate_dst (N := 9) rfl ?_); refine box_event ?hg (N := 9) ?hd (cs := #[.int .i64 0, .int .i64 0]) (t := 29) ?hr ?_; (case hd => rfl); (case hg => rfl); (case hr => first | (go_simp; done) | (go_simp; rfl)); intro gb231 hg w15 hbox hb; have n0_ := Aside0.mk (Kd.R_below (Kd.R_elderB (by (with_reducible repeat (first | apply Kd.R_alloc | apply Kd.R_drewN | apply Kd.R_drew)); exact HO_7.out) gb231 (Nat.le_of_eq hg.symm)) hb); have n1_ := Aside0.mk (Kd.R_below (Kd.R_elderB (by (with_reducible repeat (first | apply Kd.R_alloc | apply Kd.R_drewN | apply Kd.R_drew)); exact HO_12.out) gb231 (Nat.le_of_eq hg.symm)) hb); have n2_ := Aside0.mk (below_step (by repeat (first | (with_reducible first | exact HB.out | apply below_alloc | apply pw_below_drewN | apply below_drew1) | exact HB.out)) hb); have n3_ := Aside0.mk (hbox); have n4_ := Aside0.mk ((by rw [hg]; exact (below_size (by repeat (first | (with_reducible first | exact HB.out | apply below_alloc | apply pw_below_drewN | apply below_drew1) | exact HB.out))) : w.heap.size ≤ gb231)); have n5_ := Aside0.mk ((by rw [hg]; exact (below_size (by repeat (first | (with_reducible first | exact HB.out | apply below_alloc | apply pw_below_drewN | apply below_drew1) | exact HB.out))) : w.heap.size ≤ gb231)); clear HO_7; clear HO_12; clear HB; have HO_7 := n0_; have HO_12 := n1_; have HB := n2_; have BK231 := n3_; have GW231 := n4_; have GE231 := n5_; clear n0_ n1_ n2_ n3_ n4_ n5_; clear hb hbox hg; have hcz16_0 : w15.cell? ⟨gb231, 0, none⟩ = some (.int .i64 0) := (blk_cell BK231.out 0).trans rfl; have hcz16_1 : w15.cell? ⟨gb231, 1, none⟩ = some (.int .i64 0) := (blk_cell BK231.out 1).trans rfl; have hfz16_0 := blk_frozen BK231.out 0; have hfz16_1 := blk_frozen BK231.out 1) | ((with_reducible refine gate_dst (N := 10) rfl ?_); refine box_event ?hg (N := 10) ?hd (cs := #[.int .i64 0, .int .i64 0]) (t := 29) ?hr ?_; (case hd => rfl); (case hg => rfl); (case hr => first | (go_simp; done) | (go_simp; rfl)); intro gb232 hg w17 hbox hb; have n0_ := Aside0.mk (Kd.R_below (Kd.R_elderB (by (with_reducible repeat (first | apply Kd.R_alloc | apply Kd.R_drewN | apply Kd.R_drew)); exact (Kd.R_mono (Kd.R_far (p := ⟨gb231, 1, none⟩) (Kd.R_far (p := ⟨gb231, 0, none⟩) (Kd.R_mono HO_7.out (fun k_ hk => (⟨hk, hk.2⟩ : _ ∧ k_ ≠ gb231))) (fun _ hk => hk.2) (.int .i64 ((rd_T29 t227 x14_1).f0))) (fun _ hk => hk.2) (.int .i64 ((rd_T29 t227 x14_1).f1))) (fun _ h_ => h_.1))) gb232 (Nat.le_of_eq hg.symm)) hb); have n1_ := Aside0.mk (Kd.R_below (Kd.R_elderB (by (with_reducible repeat (first | apply Kd.R_alloc | apply Kd.R_drewN | apply Kd.R_drew)); exact (Kd.R_mono (Kd.R_far (p := ⟨gb231, 1, none⟩) (Kd.R_far (p := ⟨gb231, 0, none⟩) (Kd.R_mono HO_12.out (fun k_ hk => (⟨hk, hk.2⟩ : _ ∧ k_ ≠ gb231))) (fun _ hk => hk.2) (.int .i64 ((rd_T29 t227 x14_1).f0))) (fun _ hk => hk.2) (.int .i64 ((rd_T29 t227 x14_1).f1))) (fun _ h_ => h_.1))) gb232 (Nat.le_of_eq hg.symm)) hb); have n2_ := Aside0.mk (blk_below (g := gb231) (o := .cells #[.int .i64 ((rd_T29 t227 x14_1).f0), .int .i64 ((rd_T29 t227 x14_1).f1)] 29 (0, 0)) (by (with_reducible repeat (first | refine blk_drewN ?_ _ | refine blk_drew ?_ | refine blk_alloc ?_ _)); refine blk_put (cs := #[.int .i64 ((rd_T29 t227 x14_1).f0), .int .i64 0]) ?_ 1 _ rfl; (with_reducible repeat (first | refine blk_drewN ?_ _ | refine blk_drew ?_ | refine blk_alloc ?_ _)); refine blk_put (cs := #[.int .i64 0, .int .i64 0]) ?_ 0 _ rfl; (with_reducible repeat (first | refine blk_drewN ?_ _ | refine blk_drew ?_ | refine blk_alloc ?_ _)); exact BK231.out) hb); have n3_ := Aside0.mk (below_step (by repeat (first | (with_reducible first | exact HB.out | apply below_alloc | apply pw_below_drewN | apply below_drew1 | refine below_set ?_ GE231.out) | exact HB.out)) hb); have n4_ := Aside0.mk (hbox); have n5_ := Aside0.mk ((by rw [hg]; exact (below_size (by repeat (first | (with_reducible first | exact HB.out | apply below_alloc | apply pw_below_drewN | apply below_drew1 | refine below_set ?_ GE231.out) | exact HB.out))) : w.heap.size ≤ gb232)); have n6_ := Aside0.mk ((by rw [hg]; exact (below_size (by repeat (first | (with_reducible first | exact HB.out | apply below_alloc | apply pw_below_drewN | apply below_drew1 | refine below_set ?_ GE231.out) | exact HB.out))) : w.heap.size ≤ gb232)); have n7_ := Aside0.mk ((by rw [hg]; exact Nat.ne_of_lt (blk_lt (g := gb231) (o := .cells #[.int .i64 ((rd_T29 t227 x14_1).f0), .int .i64 ((rd_T29 t227 x14_1).f1)] 29 (0, 0)) (by (with_reducible repeat (first | refine blk_drewN ?_ _ | refine blk_drew ?_ | refine blk_alloc ?_ _)); refine blk_put (cs := #[.int .i64 ((rd_T29 t227 x14_1).f0), .int .i64 0]) ?_ 1 _ rfl; (with_reducible repeat (first | refine blk_drewN ?_ _ | refine blk_drew ?_ | refine blk_alloc ?_ _)); refine blk_put (cs := #[.int .i64 0, .int .i64 0]) ?_ 0 _ rfl; (with_reducible repeat (first | refine blk_drewN ?_ _ | refine blk_drew ?_ | refine blk_alloc ?_ _)); exact BK231.out)) : gb231 ≠ gb232)); have n8_ := Aside0.mk ((by rw [hg]; exact Nat.ne_of_gt (blk_lt (g := gb231) (o := .cells #[.int .i64 ((rd_T29 t227 x14_1).f0), .int .i64 ((rd_T29 t227 x14_1).f1)] 29 (0, 0)) (by (with_reducible repeat (first | refine blk_drewN ?_ _ | refine blk_drew ?_ | refine blk_alloc ?_ _)); refine blk_put (cs := #[.int .i64 ((rd_T29 t227 x14_1).f0), .int .i64 0]) ?_ 1 _ rfl; (with_reducible repeat (first | refine blk_drewN ?_ _ | refine blk_drew ?_ | refine blk_alloc ?_ _)); refine blk_put (cs := #[.int .i64 0, .int .i64 0]) ?_ 0 _ rfl; (with_reducible repeat (first | refine blk_drewN ?_ _ | refine blk_drew ?_ | refine blk_alloc ?_ _)); exact BK231.out)) : gb232 ≠ gb231)); clear HO_7; clear HO_12; clear BK231; clear HB; have HO_7 := n0_; have HO_12 := n1_; have BK231 := n2_; have HB := n3_; have BK232 := n4_; have GW232 := n5_; have GE232 := n6_; have NB231_232 := n7_; have NB232_231 := n8_; clear n0_ n1_ n2_ n3_ n4_ n5_ n6_ n7_ n8_; clear hb hbox hg; have hnb18 := NB232_231.out; have hnc18 := NB231_232.out; have hcz19_0 : w17.cell? ⟨gb232, 0, none⟩ = some (.int .i64 0) := (blk_cell BK232.out 0).trans rfl; have hcz19_1 : w17.cell? ⟨gb232, 1, none⟩ = some (.int .i64 0) := (blk_cell BK232.out 1).trans rfl; have hfz19_0 := blk_frozen BK232.out 0; have hfz19_1 := blk_frozen BK232.out 1) | ((with_reducible refine gate_callee (f := 37) rfl ?_); refine goesL_ (some 28) rfl rfl Try.func37 (by kernel_rfl) rfl #[.agg #[.int .i64 ji10, .int .i64 ji11]] rfl (by (try simp only [List.map_toArray, List.map_cons, List.map_nil]); first | done | (simp only [hji10, hji11]; rfl) | rfl | (simp only [List.length_drop, List.length_take]; rfl)) ?_; (with_reducible refine (span_may.calls ji10 ji11 true _ A12.out).mono ?_); rintro e w20 ⟨rfl, hb⟩; refine ⟨_, rfl, ?_⟩; have n0_ := Aside0.mk (Kd.R_below (by (with_reducible repeat (first | apply Kd.R_alloc | apply Kd.R_drewN | apply Kd.R_drew)); exact (Kd.R_mono (Kd.R_far (p := ⟨gb232, 1, none⟩) (Kd.R_far (p := ⟨gb232, 0, none⟩) (Kd.R_mono HO_7.out (fun k_ hk => (⟨hk, hk.2⟩ : _ ∧ k_ ≠ gb232))) (fun _ hk => hk.2) (.int .i64 ji10)) (fun _ hk => hk.2) (.int .i64 ji11)) (fun _ h_ => h_.1))) hb); have n1_ := Aside0.mk (Kd.R_below (by (with_reducible repeat (first | apply Kd.R_alloc | apply Kd.R_drewN | apply Kd.R_drew)); exact (Kd.R_mono (Kd.R_far (p := ⟨gb232, 1, none⟩) (Kd.R_far (p := ⟨gb232, 0, none⟩) (Kd.R_mono HO_12.out (fun k_ hk => (⟨hk, hk.2⟩ : _ ∧ k_ ≠ gb232))) (fun _ hk => hk.2) (.int .i64 ji10)) (fun _ hk => hk.2) (.int .i64 ji11)) (fun _ h_ => h_.1))) hb); have n2_ := Aside0.mk (blk_below (g := gb231) (o := .cells #[.int .i64 ((rd_T29 t227 x14_1).f0), .int .i64 ((rd_T29 t227 x14_1).f1)] 29 (0, 0)) (by (with_reducible repeat (first | refine blk_drewN ?_ _ | refine blk_drew ?_ | refine blk_alloc ?_ _)); refine blk_far ?_ NB231_232.out _; (with_reducible repeat (first | refine blk_drewN ?_ _ | refine blk_drew ?_ | refine blk_alloc ?_ _)); refine blk_far ?_ NB231_232.out _; (with_reducible repeat (first | refine blk_drewN ?_ _ | refine blk_drew ?_ | refine blk_alloc ?_ _)); exact BK231.out) hb); have n3_ := Aside0.mk (blk_below (g := gb232) (o := .cells #[.int .i64 ji10, .int .i64 ji11] 29 (0, 0)) (by (with_reducible repeat (first | refine blk_drewN ?_ _ | refine blk_drew ?_ | refine blk_alloc ?_ _)); refine blk_put (cs := #[.int .i64 ji10, .int .i64 0]) ?_ 1 _ rfl; (with_reducible repeat (first | refine blk_drewN ?_ _ | refine blk_drew ?_ | refine blk_alloc ?_ _)); refine blk_put (cs := #[.int .i64 0, .int .i64 0]) ?_ 0 _ rfl; (with_reducible repeat (first | refine blk_drewN ?_ _ | refine blk_drew ?_ | refine blk_alloc ?_ _)); exact BK232.out) hb); have n4_ := Aside0.mk (below_step (by repeat (first | (with_reducible first | exact HB.out | apply below_alloc | apply pw_below_drewN | apply below_drew1 | refine below_set ?_ GE231.out | refine below_set ?_ GE232.out) | exact HB.out)) hb); clear HO_7; clear HO_12; clear BK231; clear BK232; clear HB; have HO_7 := n0_; have HO_12 := n1_; have BK231 := n2_; have BK232 := n3_; have HB := n4_; clear n0_ n1_ n2_ n3_ n4_; (try clear hb); (try clear hb2); (try clear hk); (try clear hi); have hcz21_0 : w20.cell? ⟨gb232, 0, none⟩ = some (.int .i64 ji10) := (blk_cell BK232.out 0).trans rfl; have hcz21_1 : w20.cell? ⟨gb232, 1, none⟩ = some (.int .i64 ji11) := (blk_cell BK232.out 1).trans rfl; have hfz21_0 := blk_frozen BK232.out 0; have hfz21_1 := blk_frozen BK232.out 1) | ((with_reducible refine gate_builtin (b := .append) (xs := #[.tmp 29, .tmp 31]) rfl ?_); at_builtin; refine Kd.R_append k29 (w0 := w) w.heap.size rfl (.tmp 29) (.tmp 31) 22 29 (.agg #[(.int .i64 0), (.int .i64 0)]) 16 rfl Try.underlying22 info29 rfl (by decide) (by omega) u7 x7_1 (⟨ji10, ji11⟩ : S29) [.int .i64 ji10, .int .i64 ji11] (fun k_ => some k_ ≠ (.slice (some ad230) t227.length co6 : Value).ownBlock ∧ k_ ≠ gb231 ∧ k_ ≠ gb232) (fun _ => False) rfl rfl ?aP (fun _ hk => hk.elim) ?aF ?aO ?aB ?aS ?aL ?_; (case aP => exact k29_mkM _ _ _ (⟨ji10, ji11⟩ : S29)); (case aB => exact (by repeat (first | (with_reducible first | exact HB.out | apply below_alloc | apply pw_below_drewN | apply below_drew1 | refine below_set ?_ GE231.out | refine below_set ?_ GE232.out) | exact HB.out))); (case aF => exact (fun k_ hk => ⟨Kd.fresh' (Kd.R_lt (by (with_reducible repeat (first | apply Kd.R_alloc | apply Kd.R_drewN | apply Kd.R_drew)); exact HO_12.out)) k_ hk, Kd.freshB (g := gb231) (o := .cells #[.int .i64 ((rd_T29 t227 x14_1).f0), .int .i64 ((rd_T29 t227 x14_1).f1)] 29 (0, 0)) (by (with_reducible repeat (first | refine blk_drewN ?_ _ | refine blk_drew ?_ | refine blk_alloc ?_ _)); exact BK231.out) k_ hk, Kd.freshB (g := gb232) (o := .cells #[.int .i64 ji10, .int .i64 ji11] 29 (0, 0)) (by (with_reducible repeat (first | refine blk_drewN ?_ _ | refine blk_drew ?_ | refine blk_alloc ?_ _)); exact BK232.out) k_ hk⟩)); (case aO => exact (by (with_reducible repeat (first | apply Kd.R_alloc | apply Kd.R_drewN | apply Kd.R_drew)); exact Kd.R_mono HO_7.out (fun _ hk => ⟨hk.1.1, ⟨hk.1.2, hk.2⟩⟩))); (case aS => exact (below_size (by repeat (first | (with_reducible first | exact HB.out | apply below_alloc | apply pw_below_drewN | apply below_drew1 | refine below_set ?_ GE231.out | refine below_set ?_ GE232.out) | exact HB.out)))); (case aL => have := LMc14.out; omega); intro v235 w22 ho hb hg hat; rw [← Ny234.out] at ho; have n0_ := Aside0.mk (Kd.R_after (ok := (fun k_ => k_ ≠ gb231 ∧ k_ ≠ gb232)) (by (with_reducible repeat (first | apply Kd.R_alloc | apply Kd.R_drewN | apply Kd.R_drew)); exact Kd.R_mono HO_12.out (fun _ hk => ⟨⟨hk.1.2, hk.2⟩, hk.1.1⟩)) hg hat); have n1_ := Aside0.mk (blk_grown (g := gb231) (o := .cells #[.int .i64 ((rd_T29 t227 x14_1).f0), .int .i64 ((rd_T29 t227 x14_1).f1)] 29 (0, 0)) (by (with_reducible repeat (first | refine blk_drewN ?_ _ | refine blk_drew ?_ | refine blk_alloc ?_ _)); exact BK231.out) hg (Kd.R_away HO_7.out (fun _ hk => hk.1.2))); have n2_ := Aside0.mk (blk_grown (g := gb232) (o := .cells #[.int .i64 ji10, .int .i64 ji11] 29 (0, 0)) (by (with_reducible repeat (first | refine blk_drewN ?_ _ | refine blk_drew ?_ | refine blk_alloc ?_ _)); exact BK232.out) hg (Kd.R_away HO_7.out (fun _ hk => hk.2))); have n3_ := Aside0.mk (hb); have n4_ := Aside0.mk (ho); clear HO_12; clear BK231; clear BK232; clear HB; clear HO_7; have HO_12 := n0_; have BK231 := n1_; have BK232 := n2_; have HB := n3_; have HO236 := n4_; clear n0_ n1_ n2_ n3_ n4_; clear ho hb hg hat))
                go_roundg k1
                case measure => have := HK1.out; omega
                case rel => exact ⟨(y234), (wrap64 (x14_1 + 1)), (by first | rfl | (simp; done) | (simp [*]; done)), H', ⟨by have := HK1.out; omega⟩, ⟨by (with_reducible repeat (first | apply Kd.R_alloc | apply Kd.R_drewN | apply Kd.R_drew)); exact Kd.R_mono HO236.out (fun _ hk => hk.1)⟩, ⟨by (with_reducible repeat (first | apply Kd.R_alloc | apply Kd.R_drewN | apply Kd.R_drew)); exact Kd.R_mono HO_12.out (fun _ hk => hk.2)⟩, ⟨by repeat (first | (with_reducible first | exact HB.out | apply below_alloc | apply pw_below_drewN | apply below_drew1 | refine below_set ?_ GE231.out | refine below_set ?_ GE232.out) | exact HB.out)⟩⟩
              · rw [if_neg c14] at H
                exact absurd H (by simp)
            · replace c13 := Bool.eq_false_iff.mpr c13
              subst c13
              have H1 : (span_Cut.l0 k1 a1 a2 x7_1 t227 (t227.length : Int) (wrap64 (x14_1 + 1))) = some r := by rw [if_neg (show ¬ (false = true) by decide)] at H; exact H
              clear H
              have H := H1
              clear H1
              have H' := Aside0.mk H
              clear H
              have p230 : 0 ≤ (x14_1 : Int) := of_decide_eq_true (by first | (with_reducible assumption) | assumption)
              have q230 : x14_1 < (t227.length : Int) := of_decide_eq_true (by first | (with_reducible assumption) | assumption)
              obtain ⟨ad230, e230, hx230_0, hx230_1⟩ := at_T29 (Kd.R_reads' HO_12.out).2.2 x14_1 p230 q230
              cases e230
              replace p230 := eq_true p230
              replace q230 := eq_true q230
              go_wp2_with (first | ((with_reducible refine gate_dst (N := 9) rfl ?_); refine box_event ?hg (N := 9) ?hd (cs := #[.int .i64 0, .int .i64 0]) (t := 29) ?hr ?_; (case hd => rfl); (case hg => rfl); (case hr => first | (go_simp; done) | (go_simp; rfl)); intro gb231 hg w23 hbox hb; have n0_ := Aside0.mk (Kd.R_below (Kd.R_elderB (by (with_reducible repeat (first | apply Kd.R_alloc | apply Kd.R_drewN | apply Kd.R_drew)); exact HO_7.out) gb231 (Nat.le_of_eq hg.symm)) hb); have n1_ := Aside0.mk (Kd.R_below (Kd.R_elderB (by (with_reducible repeat (first | apply Kd.R_alloc | apply Kd.R_drewN | apply Kd.R_drew)); exact HO_12.out) gb231 (Nat.le_of_eq hg.symm)) hb); have n2_ := Aside0.mk (below_step (by repeat (first | (with_reducible first | exact HB.out | apply below_alloc | apply pw_below_drewN | apply below_drew1) | exact HB.out)) hb); have n3_ := Aside0.mk (hbox); have n4_ := Aside0.mk ((by rw [hg]; exact (below_size (by repeat (first | (with_reducible first | exact HB.out | apply below_alloc | apply pw_below_drewN | apply below_drew1) | exact HB.out))) : w.heap.size ≤ gb231)); have n5_ := Aside0.mk ((by rw [hg]; exact (below_size (by repeat (first | (with_reducible first | exact HB.out | apply below_alloc | apply pw_below_drewN | apply below_drew1) | exact HB.out))) : w.heap.size ≤ gb231)); clear HO_7; clear HO_12; clear HB; have HO_7 := n0_; have HO_12 := n1_; have HB := n2_; have BK231 := n3_; have GW231 := n4_; have GE231 := n5_; clear n0_ n1_ n2_ n3_ n4_ n5_; clear hb hbox hg; have hcz24_0 : w23.cell? ⟨gb231, 0, none⟩ = some (.int .i64 0) := (blk_cell BK231.out 0).trans rfl; have hcz24_1 : w23.cell? ⟨gb231, 1, none⟩ = some (.int .i64 0) := (blk_cell BK231.out 1).trans rfl; have hfz24_0 := blk_frozen BK231.out 0; have hfz24_1 := blk_frozen BK231.out 1) | ((with_reducible refine gate_dst (N := 10) rfl ?_); refine box_event ?hg (N := 10) ?hd (cs := #[.int .i64 0, .int .i64 0]) (t := 29) ?hr ?_; (case hd => rfl); (case hg => rfl); (case hr => first | (go_simp; done) | (go_simp; rfl)); intro gb232 hg w25 hbox hb; have n0_ := Aside0.mk (Kd.R_below (Kd.R_elderB (by (with_reducible repeat (first | apply Kd.R_alloc | apply Kd.R_drewN | apply Kd.R_drew)); exact (Kd.R_mono (Kd.R_far (p := ⟨gb231, 1, none⟩) (Kd.R_far (p := ⟨gb231, 0, none⟩) (Kd.R_mono HO_7.out (fun k_ hk => (⟨hk, hk.2⟩ : _ ∧ k_ ≠ gb231))) (fun _ hk => hk.2) (.int .i64 ((rd_T29 t227 x14_1).f0))) (fun _ hk => hk.2) (.int .i64 ((rd_T29 t227 x14_1).f1))) (fun _ h_ => h_.1))) gb232 (Nat.le_of_eq hg.symm)) hb); have n1_ := Aside0.mk (Kd.R_below (Kd.R_elderB (by (with_reducible repeat (first | apply Kd.R_alloc | apply Kd.R_drewN | apply Kd.R_drew)); exact (Kd.R_mono (Kd.R_far (p := ⟨gb231, 1, none⟩) (Kd.R_far (p := ⟨gb231, 0, none⟩) (Kd.R_mono HO_12.out (fun k_ hk => (⟨hk, hk.2⟩ : _ ∧ k_ ≠ gb231))) (fun _ hk => hk.2) (.int .i64 ((rd_T29 t227 x14_1).f0))) (fun _ hk => hk.2) (.int .i64 ((rd_T29 t227 x14_1).f1))) (fun _ h_ => h_.1))) gb232 (Nat.le_of_eq hg.symm)) hb); have n2_ := Aside0.mk (blk_below (g := gb231) (o := .cells #[.int .i64 ((rd_T29 t227 x14_1).f0), .int .i64 ((rd_T29 t227 x14_1).f1)] 29 (0, 0)) (by (with_reducible repeat (first | refine blk_drewN ?_ _ | refine blk_drew ?_ | refine blk_alloc ?_ _)); refine blk_put (cs := #[.int .i64 ((rd_T29 t227 x14_1).f0), .int .i64 0]) ?_ 1 _ rfl; (with_reducible repeat (first | refine blk_drewN ?_ _ | refine blk_drew ?_ | refine blk_alloc ?_ _)); refine blk_put (cs := #[.int .i64 0, .int .i64 0]) ?_ 0 _ rfl; (with_reducible repeat (first | refine blk_drewN ?_ _ | refine blk_drew ?_ | refine blk_alloc ?_ _)); exact BK231.out) hb); have n3_ := Aside0.mk (below_step (by repeat (first | (with_reducible first | exact HB.out | apply below_alloc | apply pw_below_drewN | apply below_drew1 | refine below_set ?_ GE231.out) | exact HB.out)) hb); have n4_ := Aside0.mk (hbox); have n5_ := Aside0.mk ((by rw [hg]; exact (below_size (by repeat (first | (with_reducible first | exact HB.out | apply below_alloc | apply pw_below_drewN | apply below_drew1 | refine below_set ?_ GE231.out) | exact HB.out))) : w.heap.size ≤ gb232)); have n6_ := Aside0.mk ((by rw [hg]; exact (below_size (by repeat (first | (with_reducible first | exact HB.out | apply below_alloc | apply pw_below_drewN | apply below_drew1 | refine below_set ?_ GE231.out) | exact HB.out))) : w.heap.size ≤ gb232)); have n7_ := Aside0.mk ((by rw [hg]; exact Nat.ne_of_lt (blk_lt (g := gb231) (o := .cells #[.int .i64 ((rd_T29 t227 x14_1).f0), .int .i64 ((rd_T29 t227 x14_1).f1)] 29 (0, 0)) (by (with_reducible repeat (first | refine blk_drewN ?_ _ | refine blk_drew ?_ | refine blk_alloc ?_ _)); refine blk_put (cs := #[.int .i64 ((rd_T29 t227 x14_1).f0), .int .i64 0]) ?_ 1 _ rfl; (with_reducible repeat (first | refine blk_drewN ?_ _ | refine blk_drew ?_ | refine blk_alloc ?_ _)); refine blk_put (cs := #[.int .i64 0, .int .i64 0]) ?_ 0 _ rfl; (with_reducible repeat (first | refine blk_drewN ?_ _ | refine blk_drew ?_ | refine blk_alloc ?_ _)); exact BK231.out)) : gb231 ≠ gb232)); have n8_ := Aside0.mk ((by rw [hg]; exact Nat.ne_of_gt (blk_lt (g := gb231) (o := .cells #[.int .i64 ((rd_T29 t227 x14_1).f0), .int .i64 ((rd_T29 t227 x14_1).f1)] 29 (0, 0)) (by (with_reducible repeat (first | refine blk_drewN ?_ _ | refine blk_drew ?_ | refine blk_alloc ?_ _)); refine blk_put (cs := #[.int .i64 ((rd_T29 t227 x14_1).f0), .int .i64 0]) ?_ 1 _ rfl; (with_reducible repeat (first | refine blk_drewN ?_ _ | refine blk_drew ?_ | refine blk_alloc ?_ _)); refine blk_put (cs := #[.int .i64 0, .int .i64 0]) ?_ 0 _ rfl; (with_reducible repeat (first | refine blk_drewN ?_ _ | refine blk_drew ?_ | refine blk_alloc ?_ _)); exact BK231.out)) : gb232 ≠ gb231)); clear HO_7; clear HO_12; clear BK231; clear HB; have HO_7 := n0_; have HO_12 := n1_; have BK231 := n2_; have HB := n3_; have BK232 := n4_; have GW232 := n5_; have GE232 := n6_; have NB231_232 := n7_; have NB232_231 := n8_; clear n0_ n1_ n2_ n3_ n4_ n5_ n6_ n7_ n8_; clear hb hbox hg; have hnb26 := NB232_231.out; have hnc26 := NB231_232.out; have hcz27_0 : w25.cell? ⟨gb232, 0, none⟩ = some (.int .i64 0) := (blk_cell BK232.out 0).trans rfl; have hcz27_1 : w25.cell? ⟨gb232, 1, none⟩ = some (.int .i64 0) := (blk_cell BK232.out 1).trans rfl; have hfz27_0 := blk_frozen BK232.out 0; have hfz27_1 := blk_frozen BK232.out 1) | ((with_reducible refine gate_callee (f := 37) rfl ?_); refine goesL_ (some 28) rfl rfl Try.func37 (by kernel_rfl) rfl #[.agg #[.int .i64 ji10, .int .i64 ji11]] rfl (by (try simp only [List.map_toArray, List.map_cons, List.map_nil]); first | done | (simp only [hji10, hji11]; rfl) | rfl | (simp only [List.length_drop, List.length_take]; rfl)) ?_; (with_reducible refine (span_may.calls ji10 ji11 false _ A12.out).mono ?_); rintro e w28 ⟨rfl, hb⟩; refine ⟨_, rfl, ?_⟩; have n0_ := Aside0.mk (Kd.R_below (by (with_reducible repeat (first | apply Kd.R_alloc | apply Kd.R_drewN | apply Kd.R_drew)); exact (Kd.R_mono (Kd.R_far (p := ⟨gb232, 1, none⟩) (Kd.R_far (p := ⟨gb232, 0, none⟩) (Kd.R_mono HO_7.out (fun k_ hk => (⟨hk, hk.2⟩ : _ ∧ k_ ≠ gb232))) (fun _ hk => hk.2) (.int .i64 ji10)) (fun _ hk => hk.2) (.int .i64 ji11)) (fun _ h_ => h_.1))) hb); have n1_ := Aside0.mk (Kd.R_below (by (with_reducible repeat (first | apply Kd.R_alloc | apply Kd.R_drewN | apply Kd.R_drew)); exact (Kd.R_mono (Kd.R_far (p := ⟨gb232, 1, none⟩) (Kd.R_far (p := ⟨gb232, 0, none⟩) (Kd.R_mono HO_12.out (fun k_ hk => (⟨hk, hk.2⟩ : _ ∧ k_ ≠ gb232))) (fun _ hk => hk.2) (.int .i64 ji10)) (fun _ hk => hk.2) (.int .i64 ji11)) (fun _ h_ => h_.1))) hb); have n2_ := Aside0.mk (blk_below (g := gb231) (o := .cells #[.int .i64 ((rd_T29 t227 x14_1).f0), .int .i64 ((rd_T29 t227 x14_1).f1)] 29 (0, 0)) (by (with_reducible repeat (first | refine blk_drewN ?_ _ | refine blk_drew ?_ | refine blk_alloc ?_ _)); refine blk_far ?_ NB231_232.out _; (with_reducible repeat (first | refine blk_drewN ?_ _ | refine blk_drew ?_ | refine blk_alloc ?_ _)); refine blk_far ?_ NB231_232.out _; (with_reducible repeat (first | refine blk_drewN ?_ _ | refine blk_drew ?_ | refine blk_alloc ?_ _)); exact BK231.out) hb); have n3_ := Aside0.mk (blk_below (g := gb232) (o := .cells #[.int .i64 ji10, .int .i64 ji11] 29 (0, 0)) (by (with_reducible repeat (first | refine blk_drewN ?_ _ | refine blk_drew ?_ | refine blk_alloc ?_ _)); refine blk_put (cs := #[.int .i64 ji10, .int .i64 0]) ?_ 1 _ rfl; (with_reducible repeat (first | refine blk_drewN ?_ _ | refine blk_drew ?_ | refine blk_alloc ?_ _)); refine blk_put (cs := #[.int .i64 0, .int .i64 0]) ?_ 0 _ rfl; (with_reducible repeat (first | refine blk_drewN ?_ _ | refine blk_drew ?_ | refine blk_alloc ?_ _)); exact BK232.out) hb); have n4_ := Aside0.mk (below_step (by repeat (first | (with_reducible first | exact HB.out | apply below_alloc | apply pw_below_drewN | apply below_drew1 | refine below_set ?_ GE231.out | refine below_set ?_ GE232.out) | exact HB.out)) hb); clear HO_7; clear HO_12; clear BK231; clear BK232; clear HB; have HO_7 := n0_; have HO_12 := n1_; have BK231 := n2_; have BK232 := n3_; have HB := n4_; clear n0_ n1_ n2_ n3_ n4_; (try clear hb); (try clear hb2); (try clear hk); (try clear hi)))
              go_roundg k1
              case measure => have := HK1.out; omega
              case rel => exact ⟨(x7_1), (wrap64 (x14_1 + 1)), (by first | rfl | (simp; done) | (simp [*]; done)), H', ⟨by have := HK1.out; omega⟩, ⟨by (with_reducible repeat (first | apply Kd.R_alloc | apply Kd.R_drewN | apply Kd.R_drew)); exact Kd.R_mono HO_7.out (fun _ hk => hk.1.1)⟩, ⟨by (with_reducible repeat (first | apply Kd.R_alloc | apply Kd.R_drewN | apply Kd.R_drew)); exact Kd.R_mono HO_12.out (fun _ hk => hk.1.1)⟩, ⟨by repeat (first | (with_reducible first | exact HB.out | apply below_alloc | apply pw_below_drewN | apply below_drew1 | refine below_set ?_ GE231.out | refine below_set ?_ GE232.out) | exact HB.out)⟩⟩
          · rw [if_neg c9] at H
            exact absurd H (by simp)
        · rw [if_neg c8] at H
          exact absurd H (by simp)
      · rw [if_neg c7] at H
        have c7b0 : decide (x14_1 < (t227.length : Int)) = false := decide_eq_false c7
        clear c7
        obtain rfl := Option.some.inj H
        go_wp2
        go_ret
        exact ⟨_, by first | rfl | (rw [HR_.out] <;> rfl) | (simp [errW_none, errW_some] <;> rfl) | (simp [*, errW_none, errW_some] <;> rfl), by (with_reducible repeat (first | apply Kd.R_alloc | apply Kd.R_drewN | apply Kd.R_drew)); exact Kd.R_mono HO_7.out (fun _ hk => trivial), by repeat (first | (with_reducible first | exact HB.out | apply below_alloc | apply pw_below_drewN | apply below_drew1) | exact HB.out)⟩

/-! ### remontoirlaw04_SpanTotals: function 5 -/
mutual
def remontoirlaw04_SpanTotals.l0 : Nat → List (S29) → Int → Int → Option (Bool)
  | 0, _, _, _ => none
  | k + 1, x0, x1, x5 => if x5 < (x0.length : Int) then (if 0 ≤ x5 then (if ((rd_T29 x0 x5).f1) > 2000 then ((remontoirlaw04_knows.f k).bind fun t240 => (some t240)) else (remontoirlaw04_SpanTotals.l0 k x0 x1 (wrap64 (x5 + 1)))) else (none)) else (remontoirlaw04_SpanTotals.l1 k x0 x1 0 0)
def remontoirlaw04_SpanTotals.l1 : Nat → List (S29) → Int → Int → Int → Option (Bool)
  | 0, _, _, _, _ => none
  | k + 1, x0, x1, x6, x7 => if x7 < 2000 then ((remontoirref04_In.f k x0 x7).bind fun t241 => (if t241 = true then (remontoirlaw04_SpanTotals.l1 k x0 x1 (wrap64 (x6 + 1)) (wrap64 (x7 + 1))) else (remontoirlaw04_SpanTotals.l1 k x0 x1 x6 (wrap64 (x7 + 1))))) else ((span_Cut.f k x0 0 x1).bind fun t242 => ((span_Total.f k t242).bind fun t245 => ((span_Cut.f k x0 x1 2000).bind fun t246 => ((span_Total.f k t246).bind fun t249 => (if x1 < 0 then (remontoirlaw04_SpanTotals.j2 k x0 x6 t245 t249 true) else (remontoirlaw04_SpanTotals.j2 k x0 x6 t245 t249 (decide (x1 > 2000))))))))
def remontoirlaw04_SpanTotals.j2 : Nat → List (S29) → Int → Int → Int → Bool → Option (Bool)
  | 0, _, _, _, _, _ => none
  | k + 1, x0, x6, x8, x9, x48 => if x48 = true then ((span_Total.f k x0).bind fun t250 => (if t250 = x6 then ((remontoirlaw04_knows.f k).bind fun t251 => (some t251)) else (some false))) else ((span_Total.f k x0).bind fun t252 => (if t252 = x6 then (if (wrap64 (x8 + x9)) = x6 then ((remontoirlaw04_knows.f k).bind fun t253 => (some t253)) else (some false)) else (some false)))
end
def remontoirlaw04_SpanTotals.f (k : Nat) (l0 : List (S29)) (a1 : Int) : Option (Bool) := (remontoirlaw04_great.f l0).bind fun t237 => (if t237 = true then ((remontoirlaw04_knows.f k).bind fun t238 => (some t238)) else (remontoirlaw04_SpanTotals.l0 k l0 a1 0))
theorem remontoirlaw04_SpanTotals.mono_l : ∀ k, (∀ y0 y1 y2, LeO (remontoirlaw04_SpanTotals.l0 k y0 y1 y2) (remontoirlaw04_SpanTotals.l0 (k + 1) y0 y1 y2)) ∧ (∀ y0 y1 y2 y3, LeO (remontoirlaw04_SpanTotals.l1 k y0 y1 y2 y3) (remontoirlaw04_SpanTotals.l1 (k + 1) y0 y1 y2 y3)) ∧ (∀ y0 y1 y2 y3 y4, LeO (remontoirlaw04_SpanTotals.j2 k y0 y1 y2 y3 y4) (remontoirlaw04_SpanTotals.j2 (k + 1) y0 y1 y2 y3 y4))
  | 0 => ⟨fun _ _ _ r h => by simp [remontoirlaw04_SpanTotals.l0] at h, fun _ _ _ _ r h => by simp [remontoirlaw04_SpanTotals.l1] at h, fun _ _ _ _ _ r h => by simp [remontoirlaw04_SpanTotals.j2] at h⟩
  | k + 1 => by
    obtain ⟨ih0, ih1, ih2⟩ := remontoirlaw04_SpanTotals.mono_l k
    refine ⟨?_, ?_, ?_⟩
    · intro y0 y1 y2
      unfold remontoirlaw04_SpanTotals.l0
      repeat' first
      | (with_reducible exact ih0 _ _ _)
      | (with_reducible exact ih1 _ _ _ _)
      | (with_reducible exact ih2 _ _ _ _ _)
      | (with_reducible exact remontoirlaw04_knows.mono _)
      | (with_reducible exact remontoirref04_In.mono _ _ _)
      | (with_reducible exact span_Cut.mono _ _ _ _)
      | (with_reducible exact span_Total.mono _ _)
      | (with_reducible exact LeO.refl _)
      | (with_reducible exact LeO.none _)
      | (with_reducible refine LeO.ite ?_ ?_)
      | (with_reducible refine LeO.bind ?_ (fun _ => ?_))
      | exact ih0 _ _ _
      | exact ih1 _ _ _ _
      | exact ih2 _ _ _ _ _
      | exact remontoirlaw04_knows.mono _
      | exact remontoirref04_In.mono _ _ _
      | exact span_Cut.mono _ _ _ _
      | exact span_Total.mono _ _
      | exact LeO.none _
      | refine LeO.ite ?_ ?_
      | refine LeO.bind ?_ (fun _ => ?_)
    · intro y0 y1 y2 y3
      unfold remontoirlaw04_SpanTotals.l1
      repeat' first
      | (with_reducible exact ih0 _ _ _)
      | (with_reducible exact ih1 _ _ _ _)
      | (with_reducible exact ih2 _ _ _ _ _)
      | (with_reducible exact remontoirlaw04_knows.mono _)
      | (with_reducible exact remontoirref04_In.mono _ _ _)
      | (with_reducible exact span_Cut.mono _ _ _ _)
      | (with_reducible exact span_Total.mono _ _)
      | (with_reducible exact LeO.refl _)
      | (with_reducible exact LeO.none _)
      | (with_reducible refine LeO.ite ?_ ?_)
      | (with_reducible refine LeO.bind ?_ (fun _ => ?_))
      | exact ih0 _ _ _
      | exact ih1 _ _ _ _
      | exact ih2 _ _ _ _ _
      | exact remontoirlaw04_knows.mono _
      | exact remontoirref04_In.mono _ _ _
      | exact span_Cut.mono _ _ _ _
      | exact span_Total.mono _ _
      | exact LeO.none _
      | refine LeO.ite ?_ ?_
      | refine LeO.bind ?_ (fun _ => ?_)
    · intro y0 y1 y2 y3 y4
      unfold remontoirlaw04_SpanTotals.j2
      repeat' first
      | (with_reducible exact ih0 _ _ _)
      | (with_reducible exact ih1 _ _ _ _)
      | (with_reducible exact ih2 _ _ _ _ _)
      | (with_reducible exact remontoirlaw04_knows.mono _)
      | (with_reducible exact remontoirref04_In.mono _ _ _)
      | (with_reducible exact span_Cut.mono _ _ _ _)
      | (with_reducible exact span_Total.mono _ _)
      | (with_reducible exact LeO.refl _)
      | (with_reducible exact LeO.none _)
      | (with_reducible refine LeO.ite ?_ ?_)
      | (with_reducible refine LeO.bind ?_ (fun _ => ?_))
      | exact ih0 _ _ _
      | exact ih1 _ _ _ _
      | exact ih2 _ _ _ _ _
      | exact remontoirlaw04_knows.mono _
      | exact remontoirref04_In.mono _ _ _
      | exact span_Cut.mono _ _ _ _
      | exact span_Total.mono _ _
      | exact LeO.none _
      | refine LeO.ite ?_ ?_
      | refine LeO.bind ?_ (fun _ => ?_)
theorem remontoirlaw04_SpanTotals.mono : ∀ a0 a1 k, LeO (remontoirlaw04_SpanTotals.f k a0 a1) (remontoirlaw04_SpanTotals.f (k + 1) a0 a1) := by
  intro a0 a1 k
  obtain ⟨ih0, ih1, ih2⟩ := remontoirlaw04_SpanTotals.mono_l k
  unfold remontoirlaw04_SpanTotals.f
  repeat' first
      | (with_reducible exact ih0 _ _ _)
      | (with_reducible exact ih1 _ _ _ _)
      | (with_reducible exact ih2 _ _ _ _ _)
      | (with_reducible exact remontoirlaw04_knows.mono _)
      | (with_reducible exact remontoirref04_In.mono _ _ _)
      | (with_reducible exact span_Cut.mono _ _ _ _)
      | (with_reducible exact span_Total.mono _ _)
      | (with_reducible exact LeO.refl _)
      | (with_reducible exact LeO.none _)
      | (with_reducible refine LeO.ite ?_ ?_)
      | (with_reducible refine LeO.bind ?_ (fun _ => ?_))
      | exact ih0 _ _ _
      | exact ih1 _ _ _ _
      | exact ih2 _ _ _ _ _
      | exact remontoirlaw04_knows.mono _
      | exact remontoirref04_In.mono _ _ _
      | exact span_Cut.mono _ _ _ _
      | exact span_Total.mono _ _
      | exact LeO.none _
      | refine LeO.ite ?_ ?_
      | refine LeO.bind ?_ (fun _ => ?_)
set_option maxHeartbeats 8000000 in
set_option maxRecDepth 100000 in
theorem remontoirlaw04_SpanTotals.calls (k : Nat) (A0 : Option Addr) (c0 : Nat) (l0 : List (S29)) (a1 : Int) (w : World) (hr0 : Kd.C k29 w A0 l0.length l0) (hc0 : l0.length ≤ c0) (h : remontoirlaw04_SpanTotals.f k l0 a1 = some true) :
    Calls Try.prog 5 #[.slice A0 l0.length c0, .int .i64 a1] w fun e w' => e = .returned (.bool true) ∧ Below w.heap.size w w' := by
  have HR0 := Aside0.mk hr0
  have HC0 := Aside0.mk hc0
  clear hr0 hc0
  have HB := Aside0.mk (Below.refl w.heap.size w)
  have H : ((remontoirlaw04_great.f l0).bind fun t237 => (if t237 = true then ((remontoirlaw04_knows.f k).bind fun t238 => (some t238)) else (remontoirlaw04_SpanTotals.l0 k l0 a1 0))) = some true := h
  clear h
  replace H := Option.bind_eq_some_iff.mp H
  obtain ⟨t237, A30, H⟩ := H
  replace H : (if t237 = true then ((remontoirlaw04_knows.f k).bind fun t238 => (some t238)) else (remontoirlaw04_SpanTotals.l0 k l0 a1 0)) = some true := H
  have A3 := Aside0.mk A30
  clear A30
  by_cases c4 : t237 = true
  · subst c4
    have H1 : ((remontoirlaw04_knows.f k).bind fun t238 => (some t238)) = some true := by rw [if_pos rfl] at H; exact H
    clear H
    have H := H1
    clear H1
    replace H := Option.bind_eq_some_iff.mp H
    obtain ⟨t238, A50, H⟩ := H
    replace H : (some t238) = some true := H
    have A5 := Aside0.mk A50
    clear A50
    have HR_ := Aside0.mk (Option.some.inj H)
    clear H
    go_enter Try.func5, Try.ntmps5
    go_wp2_with (first | ((with_reducible refine gate_callee (f := 13) rfl ?_); refine goesL_ (some 11) rfl rfl Try.func13 (by kernel_rfl) rfl #[.slice A0 l0.length c0] rfl (by (try simp only [List.map_toArray, List.map_cons, List.map_nil]); first | done | rfl | (simp only [List.length_drop, List.length_take]; rfl)) ?_; (with_reducible refine (remontoirlaw04_great.calls _ _ l0 true _ ?side1 ?side2 A3.out).mono ?_); (case side1 => repeat (first | exact HR0.out | (with_reducible refine Kd.C_alloc ?_ _) | (with_reducible refine Kd.C_drewN ?_ _) | (with_reducible refine Kd.C_drew ?_))); (case side2 => exact HC0.out); rintro e w' ⟨rfl, ⟨nd, rfl⟩⟩; refine ⟨_, rfl, ?_⟩) | ((with_reducible refine gate_callee (f := 14) rfl ?_); refine goesL_ (some 12) rfl rfl Try.func14 (by kernel_rfl) rfl #[] rfl (by (try simp only [List.map_toArray, List.map_cons, List.map_nil]); first | done | rfl | (simp only [List.length_drop, List.length_take]; rfl)) ?_; (with_reducible refine (remontoirlaw04_knows.calls k  t238 _ A5.out).mono ?_); rintro e w6 ⟨rfl, hb⟩; refine ⟨_, rfl, ?_⟩; have n0_ := Aside0.mk (below_step (by repeat (first | (with_reducible first | exact HB.out | apply below_alloc | apply pw_below_drewN | apply below_drew1) | exact HB.out)) hb); clear HB; have HB := n0_; clear n0_; (try clear hb); (try clear hb2); (try clear hk); (try clear hi)))
    go_ret
    exact ⟨by first | rfl | (rw [HR_.out] <;> rfl) | (simp [errW_none, errW_some] <;> rfl) | (simp [*, errW_none, errW_some] <;> rfl), by repeat (first | (with_reducible first | exact HB.out | apply below_alloc | apply pw_below_drewN | apply below_drew1) | exact HB.out)⟩
  · replace c4 := Bool.eq_false_iff.mpr c4
    subst c4
    have H1 : (remontoirlaw04_SpanTotals.l0 k l0 a1 0) = some true := by rw [if_neg (show ¬ (false = true) by decide)] at H; exact H
    clear H
    have H := H1
    clear H1
    have H' := Aside0.mk H
    clear H
    go_enter Try.func5, Try.ntmps5
    go_wp2_with (first | ((with_reducible refine gate_callee (f := 13) rfl ?_); refine goesL_ (some 11) rfl rfl Try.func13 (by kernel_rfl) rfl #[.slice A0 l0.length c0] rfl (by (try simp only [List.map_toArray, List.map_cons, List.map_nil]); first | done | rfl | (simp only [List.length_drop, List.length_take]; rfl)) ?_; (with_reducible refine (remontoirlaw04_great.calls _ _ l0 false _ ?side1 ?side2 A3.out).mono ?_); (case side1 => repeat (first | exact HR0.out | (with_reducible refine Kd.C_alloc ?_ _) | (with_reducible refine Kd.C_drewN ?_ _) | (with_reducible refine Kd.C_drew ?_))); (case side2 => exact HC0.out); rintro e w' ⟨rfl, ⟨nd, rfl⟩⟩; refine ⟨_, rfl, ?_⟩))
    go_loopg [5] k (fun kq v5 w' => ∃ (x5_1 : Int), v5 = .int .i64 x5_1 ∧ Aside0 (remontoirlaw04_SpanTotals.l0 kq l0 a1 x5_1 = some true) ∧ Aside0 (kq ≤ k) ∧ Aside0 (Below w.heap.size w w'))
    case atStart => exact ⟨(0), (by first | rfl | (simp; done) | (simp [*]; done)), H', ⟨Nat.le_refl _⟩, ⟨by repeat (first | (with_reducible first | exact HB.out | apply below_alloc | apply pw_below_drewN | apply below_drew1) | exact HB.out)⟩⟩
    case round =>
      clear H'
      try clear c1
      try clear p2
      try clear c4
      try clear c5
      obtain ⟨x5_1, rfl, HA, HK1, HB⟩ := hrel
      cases gk with
      | zero => exact absurd HA.out (by simp [remontoirlaw04_SpanTotals.l0])
      | succ k1 =>
        have H := HA.out
        clear HA
        simp only [remontoirlaw04_SpanTotals.l0] at H
        by_cases c7 : x5_1 < (l0.length : Int)
        · rw [if_pos c7] at H
          have c7b0 : decide (x5_1 < (l0.length : Int)) = true := decide_eq_true c7
          clear c7
          by_cases c8 : 0 ≤ x5_1
          · rw [if_pos c8] at H
            have c8b0 : decide (0 ≤ x5_1) = true := decide_eq_true c8
            clear c8
            by_cases c9 : ((rd_T29 l0 x5_1).f1) > 2000
            · rw [if_pos c9] at H
              have c9b0 : decide (2000 < ((rd_T29 l0 x5_1).f1)) = true := decide_eq_true c9
              clear c9
              replace H := Option.bind_eq_some_iff.mp H
              obtain ⟨t240, A100, H⟩ := H
              replace H : (some t240) = some true := H
              have A10 := Aside0.mk A100
              clear A100
              have HR_ := Aside0.mk (Option.some.inj H)
              clear H
              have p239 : 0 ≤ (x5_1 : Int) := of_decide_eq_true (by first | (with_reducible assumption) | assumption)
              have q239 : x5_1 < (l0.length : Int) := of_decide_eq_true (by first | (with_reducible assumption) | assumption)
              obtain ⟨ad239, e239, hx239_0, hx239_1⟩ := at_T29 HR0.out x5_1 p239 q239
              cases e239
              replace hx239_0 := (HB.out.cell (World.block_lt_of_cell? w _ hx239_0)).trans hx239_0
              replace hx239_1 := (HB.out.cell (World.block_lt_of_cell? w _ hx239_1)).trans hx239_1
              replace p239 := eq_true p239
              replace q239 := eq_true q239
              go_wp2_with (first | ((with_reducible refine gate_callee (f := 14) rfl ?_); refine goesL_ (some 25) rfl rfl Try.func14 (by kernel_rfl) rfl #[] rfl (by (try simp only [List.map_toArray, List.map_cons, List.map_nil]); first | done | rfl | (simp only [List.length_drop, List.length_take]; rfl)) ?_; (with_reducible refine (remontoirlaw04_knows.calls k1  t240 _ A10.out).mono ?_); rintro e w11 ⟨rfl, hb⟩; refine ⟨_, rfl, ?_⟩; have n0_ := Aside0.mk (below_step (by repeat (first | (with_reducible first | exact HB.out | apply below_alloc | apply pw_below_drewN | apply below_drew1) | exact HB.out)) hb); clear HB; have HB := n0_; clear n0_; (try clear hb); (try clear hb2); (try clear hk); (try clear hi)))
              go_ret
              exact ⟨by first | rfl | (rw [HR_.out] <;> rfl) | (simp [errW_none, errW_some] <;> rfl) | (simp [*, errW_none, errW_some] <;> rfl), by repeat (first | (with_reducible first | exact HB.out | apply below_alloc | apply pw_below_drewN | apply below_drew1) | exact HB.out)⟩
            · rw [if_neg c9] at H
              have c9b0 : decide (2000 < ((rd_T29 l0 x5_1).f1)) = false := decide_eq_false c9
              clear c9
              have H' := Aside0.mk H
              clear H
              have p239 : 0 ≤ (x5_1 : Int) := of_decide_eq_true (by first | (with_reducible assumption) | assumption)
              have q239 : x5_1 < (l0.length : Int) := of_decide_eq_true (by first | (with_reducible assumption) | assumption)
              obtain ⟨ad239, e239, hx239_0, hx239_1⟩ := at_T29 HR0.out x5_1 p239 q239
              cases e239
              replace hx239_0 := (HB.out.cell (World.block_lt_of_cell? w _ hx239_0)).trans hx239_0
              replace hx239_1 := (HB.out.cell (World.block_lt_of_cell? w _ hx239_1)).trans hx239_1
              replace p239 := eq_true p239
              replace q239 := eq_true q239
              go_wp2
              go_roundg k1
              case measure => have := HK1.out; omega
              case rel => exact ⟨(wrap64 (x5_1 + 1)), (by first | rfl | (simp; done) | (simp [*]; done)), H', ⟨by have := HK1.out; omega⟩, ⟨by repeat (first | (with_reducible first | exact HB.out | apply below_alloc | apply pw_below_drewN | apply below_drew1) | exact HB.out)⟩⟩
          · rw [if_neg c8] at H
            exact absurd H (by simp)
        · rw [if_neg c7] at H
          have c7b0 : decide (x5_1 < (l0.length : Int)) = false := decide_eq_false c7
          clear c7
          have H' := Aside0.mk H
          clear H
          go_wp2
          go_loopg [6, 7] k1 (fun kq v6 v7 w' => ∃ (x6_2 : Int) (x7_2 : Int), v6 = .int .i64 x6_2 ∧ v7 = .int .i64 x7_2 ∧ Aside0 (remontoirlaw04_SpanTotals.l1 kq l0 a1 x6_2 x7_2 = some true) ∧ Aside0 (kq ≤ k1) ∧ Aside0 (Below w.heap.size w w'))
          case atStart => exact ⟨(0), (0), (by first | rfl | (simp; done) | (simp [*]; done)), (by first | rfl | (simp; done) | (simp [*]; done)), H', ⟨Nat.le_refl _⟩, ⟨by repeat (first | (with_reducible first | exact HB.out | apply below_alloc | apply pw_below_drewN | apply below_drew1) | exact HB.out)⟩⟩
          case round =>
            clear H'
            try clear c1
            try clear p2
            try clear q2
            try clear hx2
            try clear c4
            try clear c5
            try clear p6
            try clear c7
            try clear c7b0
            try clear c8
            try clear c8b0
            try clear c9
            try clear c9b0
            try clear hx239_0
            try clear hx239_1
            try clear p2
            try clear p239
            try clear q239
            obtain ⟨x6_2, x7_2, rfl, rfl, HA, HK2, HB⟩ := hrel
            cases gk with
            | zero => exact absurd HA.out (by simp [remontoirlaw04_SpanTotals.l1])
            | succ k2 =>
              have H := HA.out
              clear HA
              simp only [remontoirlaw04_SpanTotals.l1] at H
              by_cases c12 : x7_2 < 2000
              · rw [if_pos c12] at H
                have c12b0 : decide (x7_2 < 2000) = true := decide_eq_true c12
                clear c12
                replace H := Option.bind_eq_some_iff.mp H
                obtain ⟨t241, A130, H⟩ := H
                replace H : (if t241 = true then (remontoirlaw04_SpanTotals.l1 k2 l0 a1 (wrap64 (x6_2 + 1)) (wrap64 (x7_2 + 1))) else (remontoirlaw04_SpanTotals.l1 k2 l0 a1 x6_2 (wrap64 (x7_2 + 1)))) = some true := H
                have A13 := Aside0.mk A130
                clear A130
                by_cases c14 : t241 = true
                · subst c14
                  have H1 : (remontoirlaw04_SpanTotals.l1 k2 l0 a1 (wrap64 (x6_2 + 1)) (wrap64 (x7_2 + 1))) = some true := by rw [if_pos rfl] at H; exact H
                  clear H
                  have H := H1
                  clear H1
                  have H' := Aside0.mk H
                  clear H
                  go_wp2_with (first | ((with_reducible refine gate_callee (f := 21) rfl ?_); refine goesL_ (some 32) rfl rfl Try.func21 (by kernel_rfl) rfl #[.slice A0 l0.length c0, .int .i64 x7_2] rfl (by (try simp only [List.map_toArray, List.map_cons, List.map_nil]); first | done | rfl | (simp only [List.length_drop, List.length_take]; rfl)) ?_; (with_reducible refine (remontoirref04_In.calls k2 _ _ l0 x7_2 true _ ?side1 ?side2 A13.out).mono ?_); (case side1 => repeat (first | exact (Kd.C_below HR0.out HB.out) | (with_reducible refine Kd.C_alloc ?_ _) | (with_reducible refine Kd.C_drewN ?_ _) | (with_reducible refine Kd.C_drew ?_))); (case side2 => exact HC0.out); rintro e w15 ⟨rfl, hb⟩; refine ⟨_, rfl, ?_⟩; have n0_ := Aside0.mk (below_step (by repeat (first | (with_reducible first | exact HB.out | apply below_alloc | apply pw_below_drewN | apply below_drew1) | exact HB.out)) hb); clear HB; have HB := n0_; clear n0_; (try clear hb); (try clear hb2); (try clear hk); (try clear hi)))
                  go_roundg k2
                  case measure => have := HK1.out; have := HK2.out; omega
                  case rel => exact ⟨(wrap64 (x6_2 + 1)), (wrap64 (x7_2 + 1)), (by first | rfl | (simp; done) | (simp [*]; done)), (by first | rfl | (simp; done) | (simp [*]; done)), H', ⟨by have := HK1.out; have := HK2.out; omega⟩, ⟨by repeat (first | (with_reducible first | exact HB.out | apply below_alloc | apply pw_below_drewN | apply below_drew1) | exact HB.out)⟩⟩
                · replace c14 := Bool.eq_false_iff.mpr c14
                  subst c14
                  have H1 : (remontoirlaw04_SpanTotals.l1 k2 l0 a1 x6_2 (wrap64 (x7_2 + 1))) = some true := by rw [if_neg (show ¬ (false = true) by decide)] at H; exact H
                  clear H
                  have H := H1
                  clear H1
                  have H' := Aside0.mk H
                  clear H
                  go_wp2_with (first | ((with_reducible refine gate_callee (f := 21) rfl ?_); refine goesL_ (some 32) rfl rfl Try.func21 (by kernel_rfl) rfl #[.slice A0 l0.length c0, .int .i64 x7_2] rfl (by (try simp only [List.map_toArray, List.map_cons, List.map_nil]); first | done | rfl | (simp only [List.length_drop, List.length_take]; rfl)) ?_; (with_reducible refine (remontoirref04_In.calls k2 _ _ l0 x7_2 false _ ?side1 ?side2 A13.out).mono ?_); (case side1 => repeat (first | exact (Kd.C_below HR0.out HB.out) | (with_reducible refine Kd.C_alloc ?_ _) | (with_reducible refine Kd.C_drewN ?_ _) | (with_reducible refine Kd.C_drew ?_))); (case side2 => exact HC0.out); rintro e w16 ⟨rfl, hb⟩; refine ⟨_, rfl, ?_⟩; have n0_ := Aside0.mk (below_step (by repeat (first | (with_reducible first | exact HB.out | apply below_alloc | apply pw_below_drewN | apply below_drew1) | exact HB.out)) hb); clear HB; have HB := n0_; clear n0_; (try clear hb); (try clear hb2); (try clear hk); (try clear hi)))
                  go_roundg k2
                  case measure => have := HK1.out; have := HK2.out; omega
                  case rel => exact ⟨(x6_2), (wrap64 (x7_2 + 1)), (by first | rfl | (simp; done) | (simp [*]; done)), (by first | rfl | (simp; done) | (simp [*]; done)), H', ⟨by have := HK1.out; have := HK2.out; omega⟩, ⟨by repeat (first | (with_reducible first | exact HB.out | apply below_alloc | apply pw_below_drewN | apply below_drew1) | exact HB.out)⟩⟩
              · rw [if_neg c12] at H
                have c12b0 : decide (x7_2 < 2000) = false := decide_eq_false c12
                clear c12
                replace H := Option.bind_eq_some_iff.mp H
                obtain ⟨t242, A170, H⟩ := H
                replace H : ((span_Total.f k2 t242).bind fun t245 => ((span_Cut.f k2 l0 a1 2000).bind fun t246 => ((span_Total.f k2 t246).bind fun t249 => (if a1 < 0 then (remontoirlaw04_SpanTotals.j2 k2 l0 x6_2 t245 t249 true) else (remontoirlaw04_SpanTotals.j2 k2 l0 x6_2 t245 t249 (decide (a1 > 2000))))))) = some true := H
                have A17 := Aside0.mk A170
                clear A170
                replace H := Option.bind_eq_some_iff.mp H
                obtain ⟨t245, A180, H⟩ := H
                replace H : ((span_Cut.f k2 l0 a1 2000).bind fun t246 => ((span_Total.f k2 t246).bind fun t249 => (if a1 < 0 then (remontoirlaw04_SpanTotals.j2 k2 l0 x6_2 t245 t249 true) else (remontoirlaw04_SpanTotals.j2 k2 l0 x6_2 t245 t249 (decide (a1 > 2000)))))) = some true := H
                have A18 := Aside0.mk A180
                clear A180
                replace H := Option.bind_eq_some_iff.mp H
                obtain ⟨t246, A190, H⟩ := H
                replace H : ((span_Total.f k2 t246).bind fun t249 => (if a1 < 0 then (remontoirlaw04_SpanTotals.j2 k2 l0 x6_2 t245 t249 true) else (remontoirlaw04_SpanTotals.j2 k2 l0 x6_2 t245 t249 (decide (a1 > 2000))))) = some true := H
                have A19 := Aside0.mk A190
                clear A190
                replace H := Option.bind_eq_some_iff.mp H
                obtain ⟨t249, A200, H⟩ := H
                replace H : (if a1 < 0 then (remontoirlaw04_SpanTotals.j2 k2 l0 x6_2 t245 t249 true) else (remontoirlaw04_SpanTotals.j2 k2 l0 x6_2 t245 t249 (decide (a1 > 2000)))) = some true := H
                have A20 := Aside0.mk A200
                clear A200
                have HC21 := Aside0.mk H
                clear H
                go_upto_region 15 with (first | ((with_reducible refine gate_callee (f := 23) rfl ?_); refine goesL_ (some 37) rfl rfl Try.func23 (by kernel_rfl) rfl #[.slice A0 l0.length c0, .int .i64 0, .int .i64 a1] rfl (by (try simp only [List.map_toArray, List.map_cons, List.map_nil]); first | done | rfl | (simp only [List.length_drop, List.length_take]; rfl)) ?_; (with_reducible refine (span_Cut.calls k2 _ _ l0 0 a1 t242 _ ?side1 ?side2 A17.out).mono ?_); (case side1 => repeat (first | exact (Kd.C_below HR0.out HB.out) | (with_reducible refine Kd.C_alloc ?_ _) | (with_reducible refine Kd.C_drewN ?_ _) | (with_reducible refine Kd.C_drew ?_))); (case side2 => exact HC0.out); rintro e w22 ⟨v243, rfl, ho0, hb⟩; refine ⟨_, rfl, ?_⟩; have n0_ := Aside0.mk (Kd.R_lower ho0 (below_size (by repeat (first | (with_reducible first | exact HB.out | apply below_alloc | apply pw_below_drewN | apply below_drew1) | exact HB.out)))); have n1_ := Aside0.mk (below_step (by repeat (first | (with_reducible first | exact HB.out | apply below_alloc | apply pw_below_drewN | apply below_drew1) | exact HB.out)) hb); clear HB; have HO244 := n0_; have HB := n1_; clear n0_ n1_; (try clear hb); (try clear hb2); (try clear hk); (try clear hi); (try clear ho0); obtain ⟨Ao23, co23, eo23⟩ := Kd.R_slice HO244.out; subst eo23) | ((with_reducible refine gate_callee (f := 22) rfl ?_); refine goesL_ (some 38) rfl rfl Try.func22 (by kernel_rfl) rfl #[.slice Ao23 t242.length co23] rfl (by (try simp only [List.map_toArray, List.map_cons, List.map_nil]); first | done | rfl | (simp only [List.length_drop, List.length_take]; rfl)) ?_; (with_reducible refine (span_Total.calls k2 _ _ t242 t245 _ ?side1 ?side2 A18.out).mono ?_); (case side1 => repeat (first | exact (Kd.R_reads' HO244.out).2.2 | (with_reducible refine Kd.C_alloc ?_ _) | (with_reducible refine Kd.C_drewN ?_ _) | (with_reducible refine Kd.C_drew ?_))); (case side2 => exact (Kd.R_reads' HO244.out).2.1); rintro e w24 ⟨rfl, hb⟩; refine ⟨_, rfl, ?_⟩; have n0_ := Aside0.mk (Kd.R_below (by (with_reducible repeat (first | apply Kd.R_alloc | apply Kd.R_drewN | apply Kd.R_drew)); exact HO244.out) hb); have n1_ := Aside0.mk (below_step (by repeat (first | (with_reducible first | exact HB.out | apply below_alloc | apply pw_below_drewN | apply below_drew1) | exact HB.out)) hb); clear HO244; clear HB; have HO244 := n0_; have HB := n1_; clear n0_ n1_; (try clear hb); (try clear hb2); (try clear hk); (try clear hi)) | ((with_reducible refine gate_callee (f := 23) rfl ?_); refine goesL_ (some 41) rfl rfl Try.func23 (by kernel_rfl) rfl #[.slice A0 l0.length c0, .int .i64 a1, .int .i64 2000] rfl (by (try simp only [List.map_toArray, List.map_cons, List.map_nil]); first | done | rfl | (simp only [List.length_drop, List.length_take]; rfl)) ?_; (with_reducible refine (span_Cut.calls k2 _ _ l0 a1 2000 t246 _ ?side1 ?side2 A19.out).mono ?_); (case side1 => repeat (first | exact (Kd.C_below HR0.out HB.out) | (with_reducible refine Kd.C_alloc ?_ _) | (with_reducible refine Kd.C_drewN ?_ _) | (with_reducible refine Kd.C_drew ?_))); (case side2 => exact HC0.out); rintro e w25 ⟨v247, rfl, ho0, hb⟩; refine ⟨_, rfl, ?_⟩; have n0_ := Aside0.mk (Kd.R_elder' (by (with_reducible repeat (first | apply Kd.R_alloc | apply Kd.R_drewN | apply Kd.R_drew)); exact HO244.out) (Kd.R_base ho0) hb); have n1_ := Aside0.mk (Kd.R_lower (Kd.R_new' ho0 (Kd.R_lt (by (with_reducible repeat (first | apply Kd.R_alloc | apply Kd.R_drewN | apply Kd.R_drew)); exact HO244.out))) (below_size (by repeat (first | (with_reducible first | exact HB.out | apply below_alloc | apply pw_below_drewN | apply below_drew1) | exact HB.out)))); have n2_ := Aside0.mk (below_step (by repeat (first | (with_reducible first | exact HB.out | apply below_alloc | apply pw_below_drewN | apply below_drew1) | exact HB.out)) hb); clear HO244; clear HB; have HO244 := n0_; have HO248 := n1_; have HB := n2_; clear n0_ n1_ n2_; (try clear hb); (try clear hb2); (try clear hk); (try clear hi); (try clear ho0); obtain ⟨Ao26, co26, eo26⟩ := Kd.R_slice HO248.out; subst eo26) | ((with_reducible refine gate_callee (f := 22) rfl ?_); refine goesL_ (some 42) rfl rfl Try.func22 (by kernel_rfl) rfl #[.slice Ao26 t246.length co26] rfl (by (try simp only [List.map_toArray, List.map_cons, List.map_nil]); first | done | rfl | (simp only [List.length_drop, List.length_take]; rfl)) ?_; (with_reducible refine (span_Total.calls k2 _ _ t246 t249 _ ?side1 ?side2 A20.out).mono ?_); (case side1 => repeat (first | exact (Kd.R_reads' HO248.out).2.2 | (with_reducible refine Kd.C_alloc ?_ _) | (with_reducible refine Kd.C_drewN ?_ _) | (with_reducible refine Kd.C_drew ?_))); (case side2 => exact (Kd.R_reads' HO248.out).2.1); rintro e w27 ⟨rfl, hb⟩; refine ⟨_, rfl, ?_⟩; have n0_ := Aside0.mk (Kd.R_below (by (with_reducible repeat (first | apply Kd.R_alloc | apply Kd.R_drewN | apply Kd.R_drew)); exact HO244.out) hb); have n1_ := Aside0.mk (Kd.R_below (by (with_reducible repeat (first | apply Kd.R_alloc | apply Kd.R_drewN | apply Kd.R_drew)); exact HO248.out) hb); have n2_ := Aside0.mk (below_step (by repeat (first | (with_reducible first | exact HB.out | apply below_alloc | apply pw_below_drewN | apply below_drew1) | exact HB.out)) hb); clear HO244; clear HO248; clear HB; have HO244 := n0_; have HO248 := n1_; have HB := n2_; clear n0_ n1_ n2_; (try clear hb); (try clear hb2); (try clear hk); (try clear hi)))
                (try simp only [Act.put, List.setIfInBounds_toArray, List.set_cons_zero, List.set_cons_succ])
                go_cut [48] (fun v48 wc => ∃ (kq : Nat) (x48_20 : Bool), v48 = .bool x48_20 ∧ Aside0 (remontoirlaw04_SpanTotals.j2 kq l0 x6_2 t245 t249 x48_20 = some true) ∧ Aside0 (kq ≤ k2) ∧ Aside0 (Below w.heap.size w wc))
                case first =>
                  have H := HC21.out
                  clear HC21
                  by_cases c28 : a1 < 0
                  · rw [if_pos c28] at H
                    have c28b0 : decide (a1 < 0) = true := decide_eq_true c28
                    clear c28
                    (first | rw [c28b0] | (simp only [i64_w, i32_w]; rw [c28b0]) | rw [c28b1] | (simp only [i64_w, i32_w]; rw [c28b1]) | skip)
                    have H' := Aside0.mk H
                    clear H
                    go_wp2
                    go_meet
                    case rel => exact ⟨_, (true), (by first | rfl | (simp; done) | (simp [*]; done)), H', ⟨by have := HK1.out; have := HK2.out; first | omega | exact Nat.le_refl _⟩, ⟨by repeat (first | (with_reducible first | exact HB.out | apply below_alloc | apply pw_below_drewN | apply below_drew1) | exact HB.out)⟩⟩
                  · rw [if_neg c28] at H
                    have c28b0 : decide (a1 < 0) = false := decide_eq_false c28
                    clear c28
                    (first | rw [c28b0] | (simp only [i64_w, i32_w]; rw [c28b0]) | rw [c28b1] | (simp only [i64_w, i32_w]; rw [c28b1]) | skip)
                    have H' := Aside0.mk H
                    clear H
                    go_wp2
                    go_meet
                    case rel => exact ⟨_, (decide (a1 > 2000)), (by first | rfl | (simp; done) | (simp [*]; done)), H', ⟨by have := HK1.out; have := HK2.out; first | omega | exact Nat.le_refl _⟩, ⟨by repeat (first | (with_reducible first | exact HB.out | apply below_alloc | apply pw_below_drewN | apply below_drew1) | exact HB.out)⟩⟩
                case rest =>
                  clear HC21
                  try clear c1
                  try clear c2
                  try clear p2
                  try clear q2
                  try clear hx2
                  try clear c4
                  try clear c5
                  try clear p6
                  try clear c7
                  try clear c7b0
                  try clear c8
                  try clear c8b0
                  try clear c9
                  try clear c9b0
                  try clear c12
                  try clear c12b0
                  try clear c13
                  try clear c14
                  try clear c21
                  try clear c22
                  try clear c23
                  try clear p23
                  try clear q23
                  try clear hx23
                  try clear c28
                  try clear c28b0
                  try clear hx239_0
                  try clear hx239_1
                  try clear p2
                  try clear p239
                  try clear p6
                  try clear q2
                  try clear q239
                  obtain ⟨kq, x48_20, rfl, HA, HJ20, HB⟩ := hcut
                  cases kq with
                  | zero => exact absurd HA.out (by simp [remontoirlaw04_SpanTotals.j2])
                  | succ kj20 =>
                    have H := HA.out
                    clear HA
                    simp only [remontoirlaw04_SpanTotals.j2] at H
                    by_cases c29 : x48_20 = true
                    · subst c29
                      have H1 : ((span_Total.f kj20 l0).bind fun t250 => (if t250 = x6_2 then ((remontoirlaw04_knows.f kj20).bind fun t251 => (some t251)) else (some false))) = some true := by rw [if_pos rfl] at H; exact H
                      clear H
                      have H := H1
                      clear H1
                      replace H := Option.bind_eq_some_iff.mp H
                      obtain ⟨t250, A300, H⟩ := H
                      replace H : (if t250 = x6_2 then ((remontoirlaw04_knows.f kj20).bind fun t251 => (some t251)) else (some false)) = some true := H
                      have A30 := Aside0.mk A300
                      clear A300
                      by_cases c31 : t250 = x6_2
                      · rw [if_pos c31] at H
                        have c31b0 : (t250 == x6_2) = true := beq_iff_eq.mpr c31
                        have c31b1 : (t250 != x6_2) = false := bne_eq_false_iff_eq.mpr c31
                        clear c31
                        replace H := Option.bind_eq_some_iff.mp H
                        obtain ⟨t251, A320, H⟩ := H
                        replace H : (some t251) = some true := H
                        have A32 := Aside0.mk A320
                        clear A320
                        have HR_ := Aside0.mk (Option.some.inj H)
                        clear H
                        go_wp2_with (first | ((with_reducible refine gate_callee (f := 22) rfl ?_); refine goesL_ (some 50) rfl rfl Try.func22 (by kernel_rfl) rfl #[.slice A0 l0.length c0] rfl (by (try simp only [List.map_toArray, List.map_cons, List.map_nil]); first | done | rfl | (simp only [List.length_drop, List.length_take]; rfl)) ?_; (with_reducible refine (span_Total.calls kj20 _ _ l0 t250 _ ?side1 ?side2 A30.out).mono ?_); (case side1 => repeat (first | exact (Kd.C_below HR0.out HB.out) | (with_reducible refine Kd.C_alloc ?_ _) | (with_reducible refine Kd.C_drewN ?_ _) | (with_reducible refine Kd.C_drew ?_))); (case side2 => exact HC0.out); rintro e w33 ⟨rfl, hb⟩; refine ⟨_, rfl, ?_⟩; have n0_ := Aside0.mk (below_step (by repeat (first | (with_reducible first | exact HB.out | apply below_alloc | apply pw_below_drewN | apply below_drew1) | exact HB.out)) hb); clear HB; have HB := n0_; clear n0_; (try clear hb); (try clear hb2); (try clear hk); (try clear hi)) | (go_at_call 14; (with_reducible refine (remontoirlaw04_knows.calls kj20  t251 _ A32.out).mono ?_); rintro e w34 ⟨rfl, hb⟩; have n0_ := Aside0.mk (below_step (by repeat (first | (with_reducible first | exact HB.out | apply below_alloc | apply pw_below_drewN | apply below_drew1) | exact HB.out)) hb); clear HB; have HB := n0_; clear n0_; (try clear hb); (try clear hb2); (try clear hk); (try clear hi)))
                        go_ret
                        exact ⟨by first | rfl | (rw [HR_.out] <;> rfl) | (simp [errW_none, errW_some] <;> rfl) | (simp [*, errW_none, errW_some] <;> rfl), by repeat (first | (with_reducible first | exact HB.out | apply below_alloc | apply pw_below_drewN | apply below_drew1) | exact HB.out)⟩
                      · rw [if_neg c31] at H
                        have c31b0 : (t250 == x6_2) = false := beq_eq_false_iff_ne.mpr c31
                        have c31b1 : (t250 != x6_2) = true := bne_iff_ne.mpr c31
                        exact absurd H (by simp)
                    · replace c29 := Bool.eq_false_iff.mpr c29
                      subst c29
                      have H1 : ((span_Total.f kj20 l0).bind fun t252 => (if t252 = x6_2 then (if (wrap64 (t245 + t249)) = x6_2 then ((remontoirlaw04_knows.f kj20).bind fun t253 => (some t253)) else (some false)) else (some false))) = some true := by rw [if_neg (show ¬ (false = true) by decide)] at H; exact H
                      clear H
                      have H := H1
                      clear H1
                      replace H := Option.bind_eq_some_iff.mp H
                      obtain ⟨t252, A350, H⟩ := H
                      replace H : (if t252 = x6_2 then (if (wrap64 (t245 + t249)) = x6_2 then ((remontoirlaw04_knows.f kj20).bind fun t253 => (some t253)) else (some false)) else (some false)) = some true := H
                      have A35 := Aside0.mk A350
                      clear A350
                      by_cases c36 : t252 = x6_2
                      · rw [if_pos c36] at H
                        have c36b0 : (t252 == x6_2) = true := beq_iff_eq.mpr c36
                        have c36b1 : (t252 != x6_2) = false := bne_eq_false_iff_eq.mpr c36
                        clear c36
                        by_cases c37 : (wrap64 (t245 + t249)) = x6_2
                        · rw [if_pos c37] at H
                          have c37b0 : ((wrap64 (t245 + t249)) == x6_2) = true := beq_iff_eq.mpr c37
                          have c37b1 : ((wrap64 (t245 + t249)) != x6_2) = false := bne_eq_false_iff_eq.mpr c37
                          clear c37
                          replace H := Option.bind_eq_some_iff.mp H
                          obtain ⟨t253, A380, H⟩ := H
                          replace H : (some t253) = some true := H
                          have A38 := Aside0.mk A380
                          clear A380
                          have HR_ := Aside0.mk (Option.some.inj H)
                          clear H
                          go_wp2_with (first | ((with_reducible refine gate_callee (f := 22) rfl ?_); refine goesL_ (some 57) rfl rfl Try.func22 (by kernel_rfl) rfl #[.slice A0 l0.length c0] rfl (by (try simp only [List.map_toArray, List.map_cons, List.map_nil]); first | done | rfl | (simp only [List.length_drop, List.length_take]; rfl)) ?_; (with_reducible refine (span_Total.calls kj20 _ _ l0 t252 _ ?side1 ?side2 A35.out).mono ?_); (case side1 => repeat (first | exact (Kd.C_below HR0.out HB.out) | (with_reducible refine Kd.C_alloc ?_ _) | (with_reducible refine Kd.C_drewN ?_ _) | (with_reducible refine Kd.C_drew ?_))); (case side2 => exact HC0.out); rintro e w39 ⟨rfl, hb⟩; refine ⟨_, rfl, ?_⟩; have n0_ := Aside0.mk (below_step (by repeat (first | (with_reducible first | exact HB.out | apply below_alloc | apply pw_below_drewN | apply below_drew1) | exact HB.out)) hb); clear HB; have HB := n0_; clear n0_; (try clear hb); (try clear hb2); (try clear hk); (try clear hi)) | (go_at_call 14; (with_reducible refine (remontoirlaw04_knows.calls kj20  t253 _ A38.out).mono ?_); rintro e w40 ⟨rfl, hb⟩; have n0_ := Aside0.mk (below_step (by repeat (first | (with_reducible first | exact HB.out | apply below_alloc | apply pw_below_drewN | apply below_drew1) | exact HB.out)) hb); clear HB; have HB := n0_; clear n0_; (try clear hb); (try clear hb2); (try clear hk); (try clear hi)))
                          go_ret
                          exact ⟨by first | rfl | (rw [HR_.out] <;> rfl) | (simp [errW_none, errW_some] <;> rfl) | (simp [*, errW_none, errW_some] <;> rfl), by repeat (first | (with_reducible first | exact HB.out | apply below_alloc | apply pw_below_drewN | apply below_drew1) | exact HB.out)⟩
                        · rw [if_neg c37] at H
                          have c37b0 : ((wrap64 (t245 + t249)) == x6_2) = false := beq_eq_false_iff_ne.mpr c37
                          have c37b1 : ((wrap64 (t245 + t249)) != x6_2) = true := bne_iff_ne.mpr c37
                          exact absurd H (by simp)
                      · rw [if_neg c36] at H
                        have c36b0 : (t252 == x6_2) = false := beq_eq_false_iff_ne.mpr c36
                        have c36b1 : (t252 != x6_2) = true := bne_iff_ne.mpr c36
                        exact absurd H (by simp)

/-- The statement of remontoirlaw04_SpanTotals over plain data. -/
def remontoirlaw04_SpanTotals.Pure : Prop := ∀ (l0 : List (S29)) (a1 : Int), (l0.length ≤ 9223372036854775807 ∧ ∀ x ∈ l0, ((Lit.int .i64 x.f0).wf = true ∧ (Lit.int .i64 x.f1).wf = true)) → (Lit.int .i64 a1).wf = true → ∃ k, remontoirlaw04_SpanTotals.f k l0 a1 = some true

end Go.Proofs.Ytdfokaldjfpkhaa.FSpan
