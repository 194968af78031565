-- Written by the session (wip/tools) for this claim: functions of the program as Lean functions, and their contracts.
import Derived.Test.YtbjoidhgcdcbgaaFArithx0
import Derived.Test.YtbjoidhgcdcbgaaFArithx1
import Derived.Test.YtbjoidhgcdcbgaaFArithx2
namespace Go.Proofs.Ytbjoidhgcdcbgaa.FArith
open Go.RowKit Go.Proofs.YtbjoidhgcdcbgaaW.PrintWords Go.Proofs.YtbjoidhgcdcbgaaW.PrintLast Go.Proofs.YtbjoidhgcdcbgaaW.PrintMore
attribute [local go_sem] max2_int min2_int max_two min_two max_three min_three max_four min_four   -- for this text's walks alone
set_option linter.unusedVariables false
set_option linter.unusedSimpArgs false

/-! ### remontoirlaw01_told: function 33 -/
def remontoirlaw01_told.f (a0 : Int) (a1 : Int) (a2 : Int) (a3 : Bool) : Option (Bool) := if a3 = true then (if a0 = a2 then (some (a1 == 0)) else (some false)) else (if a0 = 0 then (some (a1 == 5)) else (some false))
set_option maxHeartbeats 8000000 in
set_option maxRecDepth 100000 in
theorem remontoirlaw01_told.calls (a0 : Int) (a1 : Int) (a2 : Int) (a3 : Bool) (r : Bool) (w : World) (h : remontoirlaw01_told.f a0 a1 a2 a3 = some r) :
    Calls Try.prog 33 #[.int .i64 a0, .int .i64 a1, .int .i64 a2, .bool a3] w fun e w' => e = .returned (.bool r) ∧ Drawn0 w w' := by
  have H : (if a3 = true then (if a0 = a2 then (some (a1 == 0)) else (some false)) else (if a0 = 0 then (some (a1 == 5)) else (some false))) = some r := h
  clear h
  by_cases c5 : a3 = true
  · subst c5
    have H1 : (if a0 = a2 then (some (a1 == 0)) else (some false)) = some r := by rw [if_pos rfl] at H; exact H
    clear H
    have H := H1
    clear H1
    by_cases c6 : a0 = a2
    · rw [if_pos c6] at H
      have c6b0 : (a0 == a2) = true := beq_iff_eq.mpr c6
      have c6b1 : (a0 != a2) = false := bne_eq_false_iff_eq.mpr c6
      clear c6
      obtain rfl := Option.some.inj H
      go_enter Try.func33, Try.ntmps33
      go_wp2
      go_ret
      exact ⟨by first | rfl | (simp; done) | (simp [*]; done), by repeat (first | exact Drawn0.refl _ | apply Drawn0.step)⟩
    · rw [if_neg c6] at H
      have c6b0 : (a0 == a2) = false := beq_eq_false_iff_ne.mpr c6
      have c6b1 : (a0 != a2) = true := bne_iff_ne.mpr c6
      obtain rfl := Option.some.inj H
      go_enter Try.func33, Try.ntmps33
      go_wp2
      go_ret
      exact ⟨by first | rfl | (simp; done) | (simp [*]; done), by repeat (first | exact Drawn0.refl _ | apply Drawn0.step)⟩
  · replace c5 := Bool.eq_false_iff.mpr c5
    subst c5
    have H1 : (if a0 = 0 then (some (a1 == 5)) else (some false)) = some r := by rw [if_neg (show ¬ (false = true) by decide)] at H; exact H
    clear H
    have H := H1
    clear H1
    by_cases c7 : a0 = 0
    · rw [if_pos c7] at H
      have c7b0 : (a0 == 0) = true := beq_iff_eq.mpr c7
      have c7b1 : (a0 != 0) = false := bne_eq_false_iff_eq.mpr c7
      clear c7
      obtain rfl := Option.some.inj H
      go_enter Try.func33, Try.ntmps33
      go_wp2
      go_ret
      exact ⟨by first | rfl | (simp; done) | (simp [*]; done), by repeat (first | exact Drawn0.refl _ | apply Drawn0.step)⟩
    · rw [if_neg c7] at H
      have c7b0 : (a0 == 0) = false := beq_eq_false_iff_ne.mpr c7
      have c7b1 : (a0 != 0) = true := bne_iff_ne.mpr c7
      obtain rfl := Option.some.inj H
      go_enter Try.func33, Try.ntmps33
      go_wp2
      go_ret
      exact ⟨by first | rfl | (simp; done) | (simp [*]; done), by repeat (first | exact Drawn0.refl _ | apply Drawn0.step)⟩

/-! ### remontoirlaw01_ArithShares: function 10 -/
mutual
def remontoirlaw01_ArithShares.j0 : Nat → Int → Int → Int → Int → Int → Int → Bool → Option (Bool)
  | 0, _, _, _, _, _, _, _ => none
  | k + 1, x0, x1, x5, x6, x7, x8, x34 => if x34 = true then (if x5 = 0 then (if x6 = 1 then (if x7 = 0 then (if x8 = 1 then ((remontoirlaw01_knows.f k).bind fun t154 => (some t154)) else (some false)) else (some false)) else (some false)) else (some false)) else ((remontoirref01_Gcd.f k x0 x1).bind fun t155 => (if x5 = t155 then (remontoirlaw01_ArithShares.j1 k x0 x1 x7 x8 (x6 != 0)) else (remontoirlaw01_ArithShares.j1 k x0 x1 x7 x8 true)))
def remontoirlaw01_ArithShares.j1 : Nat → Int → Int → Int → Int → Bool → Option (Bool)
  | 0, _, _, _, _, _ => none
  | k + 1, x0, x1, x7, x8, x60 => if x60 = true then (some false) else (if x0 < 1 then (remontoirlaw01_ArithShares.j2 k x0 x1 x7 x8 true) else (remontoirlaw01_ArithShares.j2 k x0 x1 x7 x8 (decide (x1 < 1))))
def remontoirlaw01_ArithShares.j2 : Nat → Int → Int → Int → Int → Bool → Option (Bool)
  | 0, _, _, _, _, _ => none
  | k + 1, x0, x1, x7, x8, x66 => if x66 = true then (if x7 = 0 then (if x8 = 1 then ((remontoirlaw01_knows.f k).bind fun t156 => (some t156)) else (some false)) else (some false)) else ((remontoirref01_Lcm.f k x0 x1).bind fun bt157 => ((remontoirlaw01_told.f x7 x8 bt157.1 bt157.2).bind fun t159 => (if t159 = true then ((remontoirlaw01_knows.f k).bind fun t160 => (some t160)) else (some false))))
end
def remontoirlaw01_ArithShares.f (k : Nat) (a0 : Int) (a1 : Int) : Option (Bool) := (arith_Gcd.f k a0 a1).bind fun bt149 => ((arith_Lcm.f k a0 a1).bind fun bt151 => ((remontoirlaw01_may.f a0 a1).bind fun t153 => (if t153 = true then (if a0 < 0 then (remontoirlaw01_ArithShares.j0 k a0 a1 bt149.1 bt149.2 bt151.1 bt151.2 true) else (remontoirlaw01_ArithShares.j0 k a0 a1 bt149.1 bt149.2 bt151.1 bt151.2 (decide (a1 < 0)))) else (remontoirlaw01_ArithShares.j0 k a0 a1 bt149.1 bt149.2 bt151.1 bt151.2 true))))
theorem remontoirlaw01_ArithShares.mono_l : ∀ k, (∀ y0 y1 y2 y3 y4 y5 y6, LeO (remontoirlaw01_ArithShares.j0 k y0 y1 y2 y3 y4 y5 y6) (remontoirlaw01_ArithShares.j0 (k + 1) y0 y1 y2 y3 y4 y5 y6)) ∧ (∀ y0 y1 y2 y3 y4, LeO (remontoirlaw01_ArithShares.j1 k y0 y1 y2 y3 y4) (remontoirlaw01_ArithShares.j1 (k + 1) y0 y1 y2 y3 y4)) ∧ (∀ y0 y1 y2 y3 y4, LeO (remontoirlaw01_ArithShares.j2 k y0 y1 y2 y3 y4) (remontoirlaw01_ArithShares.j2 (k + 1) y0 y1 y2 y3 y4))
  | 0 => ⟨fun _ _ _ _ _ _ _ r h => by simp [remontoirlaw01_ArithShares.j0] at h, fun _ _ _ _ _ r h => by simp [remontoirlaw01_ArithShares.j1] at h, fun _ _ _ _ _ r h => by simp [remontoirlaw01_ArithShares.j2] at h⟩
  | k + 1 => by
    obtain ⟨ih0, ih1, ih2⟩ := remontoirlaw01_ArithShares.mono_l k
    refine ⟨?_, ?_, ?_⟩
    · intro y0 y1 y2 y3 y4 y5 y6
      unfold remontoirlaw01_ArithShares.j0
      repeat' first
      | (with_reducible exact ih0 _ _ _ _ _ _ _)
      | (with_reducible exact ih1 _ _ _ _ _)
      | (with_reducible exact ih2 _ _ _ _ _)
      | (with_reducible exact arith_Gcd.mono _ _ _)
      | (with_reducible exact arith_Lcm.mono _ _ _)
      | (with_reducible exact remontoirlaw01_knows.mono _)
      | (with_reducible exact remontoirref01_Gcd.mono _ _ _)
      | (with_reducible exact remontoirref01_Lcm.mono _ _ _)
      | (with_reducible exact LeO.refl _)
      | (with_reducible exact LeO.none _)
      | (with_reducible refine LeO.ite ?_ ?_)
      | (with_reducible refine LeO.bind ?_ (fun _ => ?_))
      | exact ih0 _ _ _ _ _ _ _
      | exact ih1 _ _ _ _ _
      | exact ih2 _ _ _ _ _
      | exact arith_Gcd.mono _ _ _
      | exact arith_Lcm.mono _ _ _
      | exact remontoirlaw01_knows.mono _
      | exact remontoirref01_Gcd.mono _ _ _
      | exact remontoirref01_Lcm.mono _ _ _
      | exact LeO.none _
      | refine LeO.ite ?_ ?_
      | refine LeO.bind ?_ (fun _ => ?_)
    · intro y0 y1 y2 y3 y4
      unfold remontoirlaw01_ArithShares.j1
      repeat' first
      | (with_reducible exact ih0 _ _ _ _ _ _ _)
      | (with_reducible exact ih1 _ _ _ _ _)
      | (with_reducible exact ih2 _ _ _ _ _)
      | (with_reducible exact arith_Gcd.mono _ _ _)
      | (with_reducible exact arith_Lcm.mono _ _ _)
      | (with_reducible exact remontoirlaw01_knows.mono _)
      | (with_reducible exact remontoirref01_Gcd.mono _ _ _)
      | (with_reducible exact remontoirref01_Lcm.mono _ _ _)
      | (with_reducible exact LeO.refl _)
      | (with_reducible exact LeO.none _)
      | (with_reducible refine LeO.ite ?_ ?_)
      | (with_reducible refine LeO.bind ?_ (fun _ => ?_))
      | exact ih0 _ _ _ _ _ _ _
      | exact ih1 _ _ _ _ _
      | exact ih2 _ _ _ _ _
      | exact arith_Gcd.mono _ _ _
      | exact arith_Lcm.mono _ _ _
      | exact remontoirlaw01_knows.mono _
      | exact remontoirref01_Gcd.mono _ _ _
      | exact remontoirref01_Lcm.mono _ _ _
      | exact LeO.none _
      | refine LeO.ite ?_ ?_
      | refine LeO.bind ?_ (fun _ => ?_)
    · intro y0 y1 y2 y3 y4
      unfold remontoirlaw01_ArithShares.j2
      repeat' first
      | (with_reducible exact ih0 _ _ _ _ _ _ _)
      | (with_reducible exact ih1 _ _ _ _ _)
      | (with_reducible exact ih2 _ _ _ _ _)
      | (with_reducible exact arith_Gcd.mono _ _ _)
      | (with_reducible exact arith_Lcm.mono _ _ _)
      | (with_reducible exact remontoirlaw01_knows.mono _)
      | (with_reducible exact remontoirref01_Gcd.mono _ _ _)
      | (with_reducible exact remontoirref01_Lcm.mono _ _ _)
      | (with_reducible exact LeO.refl _)
      | (with_reducible exact LeO.none _)
      | (with_reducible refine LeO.ite ?_ ?_)
      | (with_reducible refine LeO.bind ?_ (fun _ => ?_))
      | exact ih0 _ _ _ _ _ _ _
      | exact ih1 _ _ _ _ _
      | exact ih2 _ _ _ _ _
      | exact arith_Gcd.mono _ _ _
      | exact arith_Lcm.mono _ _ _
      | exact remontoirlaw01_knows.mono _
      | exact remontoirref01_Gcd.mono _ _ _
      | exact remontoirref01_Lcm.mono _ _ _
      | exact LeO.none _
      | refine LeO.ite ?_ ?_
      | refine LeO.bind ?_ (fun _ => ?_)
theorem remontoirlaw01_ArithShares.mono : ∀ a0 a1 k, LeO (remontoirlaw01_ArithShares.f k a0 a1) (remontoirlaw01_ArithShares.f (k + 1) a0 a1) := by
  intro a0 a1 k
  obtain ⟨ih0, ih1, ih2⟩ := remontoirlaw01_ArithShares.mono_l k
  unfold remontoirlaw01_ArithShares.f
  repeat' first
      | (with_reducible exact ih0 _ _ _ _ _ _ _)
      | (with_reducible exact ih1 _ _ _ _ _)
      | (with_reducible exact ih2 _ _ _ _ _)
      | (with_reducible exact arith_Gcd.mono _ _ _)
      | (with_reducible exact arith_Lcm.mono _ _ _)
      | (with_reducible exact remontoirlaw01_knows.mono _)
      | (with_reducible exact remontoirref01_Gcd.mono _ _ _)
      | (with_reducible exact remontoirref01_Lcm.mono _ _ _)
      | (with_reducible exact LeO.refl _)
      | (with_reducible exact LeO.none _)
      | (with_reducible refine LeO.ite ?_ ?_)
      | (with_reducible refine LeO.bind ?_ (fun _ => ?_))
      | exact ih0 _ _ _ _ _ _ _
      | exact ih1 _ _ _ _ _
      | exact ih2 _ _ _ _ _
      | exact arith_Gcd.mono _ _ _
      | exact arith_Lcm.mono _ _ _
      | exact remontoirlaw01_knows.mono _
      | exact remontoirref01_Gcd.mono _ _ _
      | exact remontoirref01_Lcm.mono _ _ _
      | exact LeO.none _
      | refine LeO.ite ?_ ?_
      | refine LeO.bind ?_ (fun _ => ?_)
set_option maxHeartbeats 8000000 in
set_option maxRecDepth 100000 in
theorem remontoirlaw01_ArithShares.calls (k : Nat) (a0 : Int) (a1 : Int) (r : Bool) (w : World) (h : remontoirlaw01_ArithShares.f k a0 a1 = some r) :
    Calls Try.prog 10 #[.int .i64 a0, .int .i64 a1] w fun e w' => e = .returned (.bool r) ∧ Below w.heap.size w w' := by
  have HB := Aside0.mk (Below.refl w.heap.size w)
  have H : ((arith_Gcd.f k a0 a1).bind fun bt149 => ((arith_Lcm.f k a0 a1).bind fun bt151 => ((remontoirlaw01_may.f a0 a1).bind fun t153 => (if t153 = true then (if a0 < 0 then (remontoirlaw01_ArithShares.j0 k a0 a1 bt149.1 bt149.2 bt151.1 bt151.2 true) else (remontoirlaw01_ArithShares.j0 k a0 a1 bt149.1 bt149.2 bt151.1 bt151.2 (decide (a1 < 0)))) else (remontoirlaw01_ArithShares.j0 k a0 a1 bt149.1 bt149.2 bt151.1 bt151.2 true))))) = some r := h
  clear h
  replace H := Option.bind_eq_some_iff.mp H
  obtain ⟨⟨t149, t150⟩, A30, H⟩ := H
  replace H : ((arith_Lcm.f k a0 a1).bind fun bt151 => ((remontoirlaw01_may.f a0 a1).bind fun t153 => (if t153 = true then (if a0 < 0 then (remontoirlaw01_ArithShares.j0 k a0 a1 t149 t150 bt151.1 bt151.2 true) else (remontoirlaw01_ArithShares.j0 k a0 a1 t149 t150 bt151.1 bt151.2 (decide (a1 < 0)))) else (remontoirlaw01_ArithShares.j0 k a0 a1 t149 t150 bt151.1 bt151.2 true)))) = some r := H
  have A3 := Aside0.mk A30
  clear A30
  replace H := Option.bind_eq_some_iff.mp H
  obtain ⟨⟨t151, t152⟩, A40, H⟩ := H
  replace H : ((remontoirlaw01_may.f a0 a1).bind fun t153 => (if t153 = true then (if a0 < 0 then (remontoirlaw01_ArithShares.j0 k a0 a1 t149 t150 t151 t152 true) else (remontoirlaw01_ArithShares.j0 k a0 a1 t149 t150 t151 t152 (decide (a1 < 0)))) else (remontoirlaw01_ArithShares.j0 k a0 a1 t149 t150 t151 t152 true))) = some r := H
  have A4 := Aside0.mk A40
  clear A40
  have HC5 := Aside0.mk H
  clear H
  go_enter Try.func10, Try.ntmps10
  go_upto_region 3 with (first | ((with_reducible refine gate_callee (f := 29) rfl ?_); refine goesL_ (some 14) rfl rfl Try.func29 (by kernel_rfl) rfl #[.int .i64 a0, .int .i64 a1] rfl (by (try simp only [List.map_toArray, List.map_cons, List.map_nil]); first | done | rfl | (simp only [List.length_drop, List.length_take]; rfl)) ?_; (with_reducible refine (arith_Gcd.calls k a0 a1 t149 t150 _ A3.out).mono ?_); rintro e w6 ⟨rfl, hb⟩; refine ⟨_, rfl, ?_⟩; have n0_ := Aside0.mk (below_step (by repeat (first | (with_reducible first | exact HB.out | apply below_alloc | apply pw_below_drewN | apply below_drew1) | exact HB.out)) hb); clear HB; have HB := n0_; clear n0_; (try clear hb); (try clear hb2); (try clear hk); (try clear hi)) | ((with_reducible refine gate_callee (f := 30) rfl ?_); refine goesL_ (some 20) rfl rfl Try.func30 (by kernel_rfl) rfl #[.int .i64 a0, .int .i64 a1] rfl (by (try simp only [List.map_toArray, List.map_cons, List.map_nil]); first | done | rfl | (simp only [List.length_drop, List.length_take]; rfl)) ?_; (with_reducible refine (arith_Lcm.calls k a0 a1 t151 t152 _ A4.out).mono ?_); rintro e w7 ⟨rfl, hb⟩; refine ⟨_, rfl, ?_⟩; have n0_ := Aside0.mk (below_step (by repeat (first | (with_reducible first | exact HB.out | apply below_alloc | apply pw_below_drewN | apply below_drew1) | exact HB.out)) hb); clear HB; have HB := n0_; clear n0_; (try clear hb); (try clear hb2); (try clear hk); (try clear hi)))
  (try simp only [Act.put, List.setIfInBounds_toArray, List.set_cons_zero, List.set_cons_succ])
  go_cut [34] (fun v34 wc => ∃ (kq : Nat) (x34_4 : Bool), v34 = .bool x34_4 ∧ Aside0 (remontoirlaw01_ArithShares.j0 kq a0 a1 t149 t150 t151 t152 x34_4 = some r) ∧ Aside0 (kq ≤ k) ∧ Aside0 (Below w.heap.size w wc))
  case first =>
    have H := HC5.out
    clear HC5
    replace H := Option.bind_eq_some_iff.mp H
    obtain ⟨t153, A80, H⟩ := H
    replace H : (if t153 = true then (if a0 < 0 then (remontoirlaw01_ArithShares.j0 k a0 a1 t149 t150 t151 t152 true) else (remontoirlaw01_ArithShares.j0 k a0 a1 t149 t150 t151 t152 (decide (a1 < 0)))) else (remontoirlaw01_ArithShares.j0 k a0 a1 t149 t150 t151 t152 true)) = some r := H
    have A8 := Aside0.mk A80
    clear A80
    by_cases c9 : t153 = true
    · subst c9
      have H1 : (if a0 < 0 then (remontoirlaw01_ArithShares.j0 k a0 a1 t149 t150 t151 t152 true) else (remontoirlaw01_ArithShares.j0 k a0 a1 t149 t150 t151 t152 (decide (a1 < 0)))) = some r := by rw [if_pos rfl] at H; exact H
      clear H
      have H := H1
      clear H1
      by_cases c10 : a0 < 0
      · rw [if_pos c10] at H
        have c10b0 : decide (a0 < 0) = true := decide_eq_true c10
        clear c10
        (first | rw [c10b0] | (simp only [i64_w, i32_w]; rw [c10b0]) | skip)
        have H' := Aside0.mk H
        clear H
        go_wp2_with (first | ((with_reducible refine gate_callee (f := 26) rfl ?_); refine goesL_ (some 25) rfl rfl Try.func26 (by kernel_rfl) rfl #[.int .i64 a0, .int .i64 a1] rfl (by (try simp only [List.map_toArray, List.map_cons, List.map_nil]); first | done | rfl | (simp only [List.length_drop, List.length_take]; rfl)) ?_; (with_reducible refine (remontoirlaw01_may.calls a0 a1 true _ A8.out).mono ?_); rintro e w' ⟨rfl, ⟨nd, rfl⟩⟩; refine ⟨_, rfl, ?_⟩))
        go_meet
        case rel => exact ⟨_, (true), (by first | rfl | (simp; done) | (simp [*]; done)), H', ⟨by first | omega | exact Nat.le_refl _⟩, ⟨by repeat (first | (with_reducible first | exact HB.out | apply below_alloc | apply pw_below_drewN | apply below_drew1) | exact HB.out)⟩⟩
      · rw [if_neg c10] at H
        have c10b0 : decide (a0 < 0) = false := decide_eq_false c10
        clear c10
        (first | rw [c10b0] | (simp only [i64_w, i32_w]; rw [c10b0]) | skip)
        have H' := Aside0.mk H
        clear H
        go_wp2_with (first | ((with_reducible refine gate_callee (f := 26) rfl ?_); refine goesL_ (some 25) rfl rfl Try.func26 (by kernel_rfl) rfl #[.int .i64 a0, .int .i64 a1] rfl (by (try simp only [List.map_toArray, List.map_cons, List.map_nil]); first | done | rfl | (simp only [List.length_drop, List.length_take]; rfl)) ?_; (with_reducible refine (remontoirlaw01_may.calls a0 a1 true _ A8.out).mono ?_); rintro e w' ⟨rfl, ⟨nd, rfl⟩⟩; refine ⟨_, rfl, ?_⟩))
        go_meet
        case rel => exact ⟨_, (decide (a1 < 0)), (by first | rfl | (simp; done) | (simp [*]; done)), H', ⟨by first | omega | exact Nat.le_refl _⟩, ⟨by repeat (first | (with_reducible first | exact HB.out | apply below_alloc | apply pw_below_drewN | apply below_drew1) | exact HB.out)⟩⟩
    · replace c9 := Bool.eq_false_iff.mpr c9
      subst c9
      have H1 : (remontoirlaw01_ArithShares.j0 k a0 a1 t149 t150 t151 t152 true) = some r := by rw [if_neg (show ¬ (false = true) by decide)] at H; exact H
      clear H
      have H := H1
      clear H1
      have H' := Aside0.mk H
      clear H
      go_wp2_with (first | ((with_reducible refine gate_callee (f := 26) rfl ?_); refine goesL_ (some 25) rfl rfl Try.func26 (by kernel_rfl) rfl #[.int .i64 a0, .int .i64 a1] rfl (by (try simp only [List.map_toArray, List.map_cons, List.map_nil]); first | done | rfl | (simp only [List.length_drop, List.length_take]; rfl)) ?_; (with_reducible refine (remontoirlaw01_may.calls a0 a1 false _ A8.out).mono ?_); rintro e w' ⟨rfl, ⟨nd, rfl⟩⟩; refine ⟨_, rfl, ?_⟩))
      go_meet
      case rel => exact ⟨_, (true), (by first | rfl | (simp; done) | (simp [*]; done)), H', ⟨by first | omega | exact Nat.le_refl _⟩, ⟨by repeat (first | (with_reducible first | exact HB.out | apply below_alloc | apply pw_below_drewN | apply below_drew1) | exact HB.out)⟩⟩
  case rest =>
    clear HC5
    try clear c1
    try clear c2
    try clear p2
    try clear c3
    try clear c9
    try clear c10
    try clear c10b0
    obtain ⟨kq, x34_4, rfl, HA, HJ4, HB⟩ := hcut
    cases kq with
    | zero => exact absurd HA.out (by simp [remontoirlaw01_ArithShares.j0])
    | succ kj4 =>
      have H := HA.out
      clear HA
      simp only [remontoirlaw01_ArithShares.j0] at H
      by_cases c11 : x34_4 = true
      · subst c11
        have H1 : (if t149 = 0 then (if t150 = 1 then (if t151 = 0 then (if t152 = 1 then ((remontoirlaw01_knows.f kj4).bind fun t154 => (some t154)) else (some false)) else (some false)) else (some false)) else (some false)) = some r := by rw [if_pos rfl] at H; exact H
        clear H
        have H := H1
        clear H1
        by_cases c12 : t149 = 0
        · rw [if_pos c12] at H
          have c12b0 : (t149 == 0) = true := beq_iff_eq.mpr c12
          have c12b1 : (t149 != 0) = false := bne_eq_false_iff_eq.mpr c12
          clear c12
          by_cases c13 : t150 = 1
          · rw [if_pos c13] at H
            have c13b0 : (t150 == 1) = true := beq_iff_eq.mpr c13
            have c13b1 : (t150 != 1) = false := bne_eq_false_iff_eq.mpr c13
            clear c13
            by_cases c14 : t151 = 0
            · rw [if_pos c14] at H
              have c14b0 : (t151 == 0) = true := beq_iff_eq.mpr c14
              have c14b1 : (t151 != 0) = false := bne_eq_false_iff_eq.mpr c14
              clear c14
              by_cases c15 : t152 = 1
              · rw [if_pos c15] at H
                have c15b0 : (t152 == 1) = true := beq_iff_eq.mpr c15
                have c15b1 : (t152 != 1) = false := bne_eq_false_iff_eq.mpr c15
                clear c15
                replace H := Option.bind_eq_some_iff.mp H
                obtain ⟨t154, A160, H⟩ := H
                replace H : (some t154) = some r := H
                have A16 := Aside0.mk A160
                clear A160
                obtain rfl := Option.some.inj H
                go_wp2_with (first | (go_at_call 27; (with_reducible refine (remontoirlaw01_knows.calls kj4  t154 _ A16.out).mono ?_); rintro e w17 ⟨rfl, hb⟩; have n0_ := Aside0.mk (below_step (by repeat (first | (with_reducible first | exact HB.out | apply below_alloc | apply pw_below_drewN | apply below_drew1) | exact HB.out)) hb); clear HB; have HB := n0_; clear n0_; (try clear hb); (try clear hb2); (try clear hk); (try clear hi)))
                go_ret
                exact ⟨by first | rfl | (simp [errW_none, errW_some] <;> rfl) | (simp [*, errW_none, errW_some] <;> rfl), by repeat (first | (with_reducible first | exact HB.out | apply below_alloc | apply pw_below_drewN | apply below_drew1) | exact HB.out)⟩
              · rw [if_neg c15] at H
                have c15b0 : (t152 == 1) = false := beq_eq_false_iff_ne.mpr c15
                have c15b1 : (t152 != 1) = true := bne_iff_ne.mpr c15
                obtain rfl := Option.some.inj H
                go_wp2
                go_ret
                exact ⟨by first | rfl | (simp [errW_none, errW_some] <;> rfl) | (simp [*, errW_none, errW_some] <;> rfl), by repeat (first | (with_reducible first | exact HB.out | apply below_alloc | apply pw_below_drewN | apply below_drew1) | exact HB.out)⟩
            · rw [if_neg c14] at H
              have c14b0 : (t151 == 0) = false := beq_eq_false_iff_ne.mpr c14
              have c14b1 : (t151 != 0) = true := bne_iff_ne.mpr c14
              obtain rfl := Option.some.inj H
              go_wp2
              go_ret
              exact ⟨by first | rfl | (simp [errW_none, errW_some] <;> rfl) | (simp [*, errW_none, errW_some] <;> rfl), by repeat (first | (with_reducible first | exact HB.out | apply below_alloc | apply pw_below_drewN | apply below_drew1) | exact HB.out)⟩
          · rw [if_neg c13] at H
            have c13b0 : (t150 == 1) = false := beq_eq_false_iff_ne.mpr c13
            have c13b1 : (t150 != 1) = true := bne_iff_ne.mpr c13
            obtain rfl := Option.some.inj H
            go_wp2
            go_ret
            exact ⟨by first | rfl | (simp [errW_none, errW_some] <;> rfl) | (simp [*, errW_none, errW_some] <;> rfl), by repeat (first | (with_reducible first | exact HB.out | apply below_alloc | apply pw_below_drewN | apply below_drew1) | exact HB.out)⟩
        · rw [if_neg c12] at H
          have c12b0 : (t149 == 0) = false := beq_eq_false_iff_ne.mpr c12
          have c12b1 : (t149 != 0) = true := bne_iff_ne.mpr c12
          obtain rfl := Option.some.inj H
          go_wp2
          go_ret
          exact ⟨by first | rfl | (simp [errW_none, errW_some] <;> rfl) | (simp [*, errW_none, errW_some] <;> rfl), by repeat (first | (with_reducible first | exact HB.out | apply below_alloc | apply pw_below_drewN | apply below_drew1) | exact HB.out)⟩
      · replace c11 := Bool.eq_false_iff.mpr c11
        subst c11
        have H1 : ((remontoirref01_Gcd.f kj4 a0 a1).bind fun t155 => (if t149 = t155 then (remontoirlaw01_ArithShares.j1 kj4 a0 a1 t151 t152 (t150 != 0)) else (remontoirlaw01_ArithShares.j1 kj4 a0 a1 t151 t152 true))) = some r := by rw [if_neg (show ¬ (false = true) by decide)] at H; exact H
        clear H
        have H := H1
        clear H1
        have HC18 := Aside0.mk H
        clear H
        go_upto_region 5 with (fail)
        go_cut [60] (fun v60 wc => ∃ (kq : Nat) (x60_17 : Bool), v60 = .bool x60_17 ∧ Aside0 (remontoirlaw01_ArithShares.j1 kq a0 a1 t151 t152 x60_17 = some r) ∧ Aside0 (kq ≤ kj4) ∧ Aside0 (Below w.heap.size w wc))
        case first =>
          have H := HC18.out
          clear HC18
          replace H := Option.bind_eq_some_iff.mp H
          obtain ⟨t155, A190, H⟩ := H
          replace H : (if t149 = t155 then (remontoirlaw01_ArithShares.j1 kj4 a0 a1 t151 t152 (t150 != 0)) else (remontoirlaw01_ArithShares.j1 kj4 a0 a1 t151 t152 true)) = some r := H
          have A19 := Aside0.mk A190
          clear A190
          by_cases c20 : t149 = t155
          · rw [if_pos c20] at H
            have c20b0 : (t149 == t155) = true := beq_iff_eq.mpr c20
            have c20b1 : (t149 != t155) = false := bne_eq_false_iff_eq.mpr c20
            clear c20
            (first | rw [c20b0] | (simp only [i64_w, i32_w]; rw [c20b0]) | skip)
            have H' := Aside0.mk H
            clear H
            go_wp2_with (first | ((with_reducible refine gate_callee (f := 31) rfl ?_); refine goesL_ (some 55) rfl rfl Try.func31 (by kernel_rfl) rfl #[.int .i64 a0, .int .i64 a1] rfl (by (try simp only [List.map_toArray, List.map_cons, List.map_nil]); first | done | rfl | (simp only [List.length_drop, List.length_take]; rfl)) ?_; (with_reducible refine (remontoirref01_Gcd.calls kj4 a0 a1 t155 _ A19.out).mono ?_); rintro e w' ⟨rfl, ⟨nd, rfl⟩⟩; refine ⟨_, rfl, ?_⟩))
            go_meet
            case rel => exact ⟨_, ((t150 != 0)), (by first | rfl | (simp; done) | (simp [*]; done)), H', ⟨by have := HJ4.out; first | omega | exact Nat.le_refl _⟩, ⟨by repeat (first | (with_reducible first | exact HB.out | apply below_alloc | apply pw_below_drewN | apply below_drew1) | exact HB.out)⟩⟩
          · rw [if_neg c20] at H
            have c20b0 : (t149 == t155) = false := beq_eq_false_iff_ne.mpr c20
            have c20b1 : (t149 != t155) = true := bne_iff_ne.mpr c20
            (first | rw [c20b0] | (simp only [i64_w, i32_w]; rw [c20b0]) | skip)
            have H' := Aside0.mk H
            clear H
            go_wp2_with (first | ((with_reducible refine gate_callee (f := 31) rfl ?_); refine goesL_ (some 55) rfl rfl Try.func31 (by kernel_rfl) rfl #[.int .i64 a0, .int .i64 a1] rfl (by (try simp only [List.map_toArray, List.map_cons, List.map_nil]); first | done | rfl | (simp only [List.length_drop, List.length_take]; rfl)) ?_; (with_reducible refine (remontoirref01_Gcd.calls kj4 a0 a1 t155 _ A19.out).mono ?_); rintro e w' ⟨rfl, ⟨nd, rfl⟩⟩; refine ⟨_, rfl, ?_⟩))
            go_meet
            case rel => exact ⟨_, (true), (by first | rfl | (simp; done) | (simp [*]; done)), H', ⟨by have := HJ4.out; first | omega | exact Nat.le_refl _⟩, ⟨by repeat (first | (with_reducible first | exact HB.out | apply below_alloc | apply pw_below_drewN | apply below_drew1) | exact HB.out)⟩⟩
        case rest =>
          clear HC18
          try clear c1
          try clear c2
          try clear p2
          try clear c3
          try clear c9
          try clear c10
          try clear c10b0
          try clear c11
          try clear c12
          try clear c12b0
          try clear c12b1
          try clear c13
          try clear c13b0
          try clear c13b1
          try clear c14
          try clear c14b0
          try clear c14b1
          try clear c15
          try clear c15b0
          try clear c15b1
          try clear c20
          try clear c20b0
          try clear c20b1
          try clear p2
          obtain ⟨kq, x60_17, rfl, HA, HJ17, HB⟩ := hcut
          cases kq with
          | zero => exact absurd HA.out (by simp [remontoirlaw01_ArithShares.j1])
          | succ kj17 =>
            have H := HA.out
            clear HA
            simp only [remontoirlaw01_ArithShares.j1] at H
            by_cases c21 : x60_17 = true
            · subst c21
              have H1 : (some false) = some r := by rw [if_pos rfl] at H; exact H
              clear H
              have H := H1
              clear H1
              obtain rfl := Option.some.inj H
              go_wp2
              go_ret
              exact ⟨by first | rfl | (simp [errW_none, errW_some] <;> rfl) | (simp [*, errW_none, errW_some] <;> rfl), by repeat (first | (with_reducible first | exact HB.out | apply below_alloc | apply pw_below_drewN | apply below_drew1) | exact HB.out)⟩
            · replace c21 := Bool.eq_false_iff.mpr c21
              subst c21
              have H1 : (if a0 < 1 then (remontoirlaw01_ArithShares.j2 kj17 a0 a1 t151 t152 true) else (remontoirlaw01_ArithShares.j2 kj17 a0 a1 t151 t152 (decide (a1 < 1)))) = some r := by rw [if_neg (show ¬ (false = true) by decide)] at H; exact H
              clear H
              have H := H1
              clear H1
              have HC22 := Aside0.mk H
              clear H
              go_upto_region 7 with (fail)
              go_cut [66] (fun v66 wc => ∃ (kq : Nat) (x66_21 : Bool), v66 = .bool x66_21 ∧ Aside0 (remontoirlaw01_ArithShares.j2 kq a0 a1 t151 t152 x66_21 = some r) ∧ Aside0 (kq ≤ kj17) ∧ Aside0 (Below w.heap.size w wc))
              case first =>
                have H := HC22.out
                clear HC22
                by_cases c23 : a0 < 1
                · rw [if_pos c23] at H
                  have c23b0 : decide (a0 < 1) = true := decide_eq_true c23
                  clear c23
                  (first | rw [c23b0] | (simp only [i64_w, i32_w]; rw [c23b0]) | skip)
                  have H' := Aside0.mk H
                  clear H
                  go_wp2
                  go_meet
                  case rel => exact ⟨_, (true), (by first | rfl | (simp; done) | (simp [*]; done)), H', ⟨by have := HJ4.out; have := HJ17.out; first | omega | exact Nat.le_refl _⟩, ⟨by repeat (first | (with_reducible first | exact HB.out | apply below_alloc | apply pw_below_drewN | apply below_drew1) | exact HB.out)⟩⟩
                · rw [if_neg c23] at H
                  have c23b0 : decide (a0 < 1) = false := decide_eq_false c23
                  clear c23
                  (first | rw [c23b0] | (simp only [i64_w, i32_w]; rw [c23b0]) | skip)
                  have H' := Aside0.mk H
                  clear H
                  go_wp2
                  go_meet
                  case rel => exact ⟨_, (decide (a1 < 1)), (by first | rfl | (simp; done) | (simp [*]; done)), H', ⟨by have := HJ4.out; have := HJ17.out; first | omega | exact Nat.le_refl _⟩, ⟨by repeat (first | (with_reducible first | exact HB.out | apply below_alloc | apply pw_below_drewN | apply below_drew1) | exact HB.out)⟩⟩
              case rest =>
                clear HC22
                try clear c1
                try clear c2
                try clear p2
                try clear c3
                try clear c9
                try clear c10
                try clear c10b0
                try clear c11
                try clear c12
                try clear c12b0
                try clear c12b1
                try clear c13
                try clear c13b0
                try clear c13b1
                try clear c14
                try clear c14b0
                try clear c14b1
                try clear c15
                try clear c15b0
                try clear c15b1
                try clear c20
                try clear c20b0
                try clear c20b1
                try clear c21
                try clear c23
                try clear c23b0
                try clear p2
                obtain ⟨kq, x66_21, rfl, HA, HJ21, HB⟩ := hcut
                cases kq with
                | zero => exact absurd HA.out (by simp [remontoirlaw01_ArithShares.j2])
                | succ kj21 =>
                  have H := HA.out
                  clear HA
                  simp only [remontoirlaw01_ArithShares.j2] at H
                  by_cases c24 : x66_21 = true
                  · subst c24
                    have H1 : (if t151 = 0 then (if t152 = 1 then ((remontoirlaw01_knows.f kj21).bind fun t156 => (some t156)) else (some false)) else (some false)) = some r := by rw [if_pos rfl] at H; exact H
                    clear H
                    have H := H1
                    clear H1
                    by_cases c25 : t151 = 0
                    · rw [if_pos c25] at H
                      have c25b0 : (t151 == 0) = true := beq_iff_eq.mpr c25
                      have c25b1 : (t151 != 0) = false := bne_eq_false_iff_eq.mpr c25
                      clear c25
                      by_cases c26 : t152 = 1
                      · rw [if_pos c26] at H
                        have c26b0 : (t152 == 1) = true := beq_iff_eq.mpr c26
                        have c26b1 : (t152 != 1) = false := bne_eq_false_iff_eq.mpr c26
                        clear c26
                        replace H := Option.bind_eq_some_iff.mp H
                        obtain ⟨t156, A270, H⟩ := H
                        replace H : (some t156) = some r := H
                        have A27 := Aside0.mk A270
                        clear A270
                        obtain rfl := Option.some.inj H
                        go_wp2_with (first | (go_at_call 27; (with_reducible refine (remontoirlaw01_knows.calls kj21  t156 _ A27.out).mono ?_); rintro e w28 ⟨rfl, hb⟩; have n0_ := Aside0.mk (below_step (by repeat (first | (with_reducible first | exact HB.out | apply below_alloc | apply pw_below_drewN | apply below_drew1) | exact HB.out)) hb); clear HB; have HB := n0_; clear n0_; (try clear hb); (try clear hb2); (try clear hk); (try clear hi)))
                        go_ret
                        exact ⟨by first | rfl | (simp [errW_none, errW_some] <;> rfl) | (simp [*, errW_none, errW_some] <;> rfl), by repeat (first | (with_reducible first | exact HB.out | apply below_alloc | apply pw_below_drewN | apply below_drew1) | exact HB.out)⟩
                      · rw [if_neg c26] at H
                        have c26b0 : (t152 == 1) = false := beq_eq_false_iff_ne.mpr c26
                        have c26b1 : (t152 != 1) = true := bne_iff_ne.mpr c26
                        obtain rfl := Option.some.inj H
                        go_wp2
                        go_ret
                        exact ⟨by first | rfl | (simp [errW_none, errW_some] <;> rfl) | (simp [*, errW_none, errW_some] <;> rfl), by repeat (first | (with_reducible first | exact HB.out | apply below_alloc | apply pw_below_drewN | apply below_drew1) | exact HB.out)⟩
                    · rw [if_neg c25] at H
                      have c25b0 : (t151 == 0) = false := beq_eq_false_iff_ne.mpr c25
                      have c25b1 : (t151 != 0) = true := bne_iff_ne.mpr c25
                      obtain rfl := Option.some.inj H
                      go_wp2
                      go_ret
                      exact ⟨by first | rfl | (simp [errW_none, errW_some] <;> rfl) | (simp [*, errW_none, errW_some] <;> rfl), by repeat (first | (with_reducible first | exact HB.out | apply below_alloc | apply pw_below_drewN | apply below_drew1) | exact HB.out)⟩
                  · replace c24 := Bool.eq_false_iff.mpr c24
                    subst c24
                    have H1 : ((remontoirref01_Lcm.f kj21 a0 a1).bind fun bt157 => ((remontoirlaw01_told.f t151 t152 bt157.1 bt157.2).bind fun t159 => (if t159 = true then ((remontoirlaw01_knows.f kj21).bind fun t160 => (some t160)) else (some false)))) = some r := by rw [if_neg (show ¬ (false = true) by decide)] at H; exact H
                    clear H
                    have H := H1
                    clear H1
                    replace H := Option.bind_eq_some_iff.mp H
                    obtain ⟨⟨t157, t158⟩, A290, H⟩ := H
                    replace H : ((remontoirlaw01_told.f t151 t152 t157 t158).bind fun t159 => (if t159 = true then ((remontoirlaw01_knows.f kj21).bind fun t160 => (some t160)) else (some false))) = some r := H
                    have A29 := Aside0.mk A290
                    clear A290
                    replace H := Option.bind_eq_some_iff.mp H
                    obtain ⟨t159, A300, H⟩ := H
                    replace H : (if t159 = true then ((remontoirlaw01_knows.f kj21).bind fun t160 => (some t160)) else (some false)) = some r := H
                    have A30 := Aside0.mk A300
                    clear A300
                    by_cases c31 : t159 = true
                    · subst c31
                      have H1 : ((remontoirlaw01_knows.f kj21).bind fun t160 => (some t160)) = some r := by rw [if_pos rfl] at H; exact H
                      clear H
                      have H := H1
                      clear H1
                      replace H := Option.bind_eq_some_iff.mp H
                      obtain ⟨t160, A320, H⟩ := H
                      replace H : (some t160) = some r := H
                      have A32 := Aside0.mk A320
                      clear A320
                      obtain rfl := Option.some.inj H
                      go_wp2_with (first | ((with_reducible refine gate_callee (f := 32) rfl ?_); refine goesL_ (some 79) rfl rfl Try.func32 (by kernel_rfl) rfl #[.int .i64 a0, .int .i64 a1] rfl (by (try simp only [List.map_toArray, List.map_cons, List.map_nil]); first | done | rfl | (simp only [List.length_drop, List.length_take]; rfl)) ?_; (with_reducible refine (remontoirref01_Lcm.calls kj21 a0 a1 t157 t158 _ A29.out).mono ?_); rintro e w' ⟨rfl, ⟨nd, rfl⟩⟩; refine ⟨_, rfl, ?_⟩) | ((with_reducible refine gate_callee (f := 33) rfl ?_); refine goesL_ (some 86) rfl rfl Try.func33 (by kernel_rfl) rfl #[.int .i64 t151, .int .i64 t152, .int .i64 t157, .bool t158] rfl (by (try simp only [List.map_toArray, List.map_cons, List.map_nil]); first | done | rfl | (simp only [List.length_drop, List.length_take]; rfl)) ?_; (with_reducible refine (remontoirlaw01_told.calls t151 t152 t157 t158 true _ A30.out).mono ?_); rintro e w' ⟨rfl, ⟨nd, rfl⟩⟩; refine ⟨_, rfl, ?_⟩) | (go_at_call 27; (with_reducible refine (remontoirlaw01_knows.calls kj21  t160 _ A32.out).mono ?_); rintro e w33 ⟨rfl, hb⟩; have n0_ := Aside0.mk (below_step (by repeat (first | (with_reducible first | exact HB.out | apply below_alloc | apply pw_below_drewN | apply below_drew1) | exact HB.out)) hb); clear HB; have HB := n0_; clear n0_; (try clear hb); (try clear hb2); (try clear hk); (try clear hi)))
                      go_ret
                      exact ⟨by first | rfl | (simp [errW_none, errW_some] <;> rfl) | (simp [*, errW_none, errW_some] <;> rfl), by repeat (first | (with_reducible first | exact HB.out | apply below_alloc | apply pw_below_drewN | apply below_drew1) | exact HB.out)⟩
                    · replace c31 := Bool.eq_false_iff.mpr c31
                      subst c31
                      have H1 : (some false) = some r := by rw [if_neg (show ¬ (false = true) by decide)] at H; exact H
                      clear H
                      have H := H1
                      clear H1
                      obtain rfl := Option.some.inj H
                      go_wp2_with (first | ((with_reducible refine gate_callee (f := 32) rfl ?_); refine goesL_ (some 79) rfl rfl Try.func32 (by kernel_rfl) rfl #[.int .i64 a0, .int .i64 a1] rfl (by (try simp only [List.map_toArray, List.map_cons, List.map_nil]); first | done | rfl | (simp only [List.length_drop, List.length_take]; rfl)) ?_; (with_reducible refine (remontoirref01_Lcm.calls kj21 a0 a1 t157 t158 _ A29.out).mono ?_); rintro e w' ⟨rfl, ⟨nd, rfl⟩⟩; refine ⟨_, rfl, ?_⟩) | ((with_reducible refine gate_callee (f := 33) rfl ?_); refine goesL_ (some 86) rfl rfl Try.func33 (by kernel_rfl) rfl #[.int .i64 t151, .int .i64 t152, .int .i64 t157, .bool t158] rfl (by (try simp only [List.map_toArray, List.map_cons, List.map_nil]); first | done | rfl | (simp only [List.length_drop, List.length_take]; rfl)) ?_; (with_reducible refine (remontoirlaw01_told.calls t151 t152 t157 t158 false _ A30.out).mono ?_); rintro e w' ⟨rfl, ⟨nd, rfl⟩⟩; refine ⟨_, rfl, ?_⟩))
                      go_ret
                      exact ⟨by first | rfl | (simp [errW_none, errW_some] <;> rfl) | (simp [*, errW_none, errW_some] <;> rfl), by repeat (first | (with_reducible first | exact HB.out | apply below_alloc | apply pw_below_drewN | apply below_drew1) | exact HB.out)⟩

/-- THE ONE PURE STATEMENT of remontoirlaw01_ArithShares: yours. -/
def remontoirlaw01_ArithShares.Pure : Prop := ∀ (a0 : Int) (a1 : Int), (Lit.int .i64 a0).wf = true → (Lit.int .i64 a1).wf = true → ∃ k, remontoirlaw01_ArithShares.f k a0 a1 = some true
theorem remontoirlaw01_ArithShares.walk (P : remontoirlaw01_ArithShares.Pure) (a0 : Int) (a1 : Int) (w : World) (w0 : (Lit.int .i64 a0).wf = true) (w1 : (Lit.int .i64 a1).wf = true) :
    Calls Try.prog 10 #[.int .i64 a0, .int .i64 a1] w fun e w' => e = .returned (.bool true) ∧ Below w.heap.size w w' := by
  obtain ⟨k, h⟩ := P a0 a1 w0 w1
  refine (remontoirlaw01_ArithShares.calls k a0 a1 true w h).mono ?_
  rintro e w' ⟨rfl, hd⟩
  exact ⟨rfl, hd⟩

end Go.Proofs.Ytbjoidhgcdcbgaa.FArith
