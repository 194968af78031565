-- Written by the session (wip/tools) for this claim: functions of the program as Lean functions, and their contracts.
import Derived.Test.YtbjoidhgcdcbgaaFArithx0
import Derived.Test.YtbjoidhgcdcbgaaFArithx1
import Derived.Test.YtbjoidhgcdcbgaaFArithx2
import Derived.Test.YtbjoidhgcdcbgaaFArithx3
namespace Go.Proofs.Ytbjoidhgcdcbgaa.FArith
open Go.RowKit Go.Proofs.YtbjoidhgcdcbgaaW.PrintWords Go.Proofs.YtbjoidhgcdcbgaaW.PrintLast Go.Proofs.YtbjoidhgcdcbgaaW.PrintMore
attribute [local go_sem] max2_int min2_int max_two min_two max_three min_three max_four min_four   -- for this text's walks alone
set_option linter.unusedVariables false
set_option linter.unusedSimpArgs false

/-! ### arith_Add: function 34 -/
def arith_Add.f (k : Nat) (a0 : Int) (a1 : Int) : Option (Int × Int) := (arith_may.f k (([a0, a1] : List Int))).bind fun t173 => (if t173 = true then ((arith_may.f k (([wrap64 (a0 + a1)] : List Int))).bind fun t177 => (if t177 = true then (some (wrap64 (a0 + a1), 0)) else (some (0, 5)))) else (some (0, 1)))
theorem arith_Add.mono : ∀ a0 a1 k, LeO (arith_Add.f k a0 a1) (arith_Add.f (k + 1) a0 a1) := by
  intro a0 a1 k
  unfold arith_Add.f
  repeat' first
      | (with_reducible exact arith_may.mono _ _)
      | (with_reducible exact LeO.refl _)
      | (with_reducible exact LeO.none _)
      | (with_reducible refine LeO.ite ?_ ?_)
      | (with_reducible refine LeO.bind ?_ (fun _ => ?_))
      | exact arith_may.mono _ _
      | exact LeO.none _
      | refine LeO.ite ?_ ?_
      | refine LeO.bind ?_ (fun _ => ?_)
set_option maxHeartbeats 8000000 in
set_option maxRecDepth 100000 in
theorem arith_Add.calls (k : Nat) (a0 : Int) (a1 : Int) (r1 : Int) (r2 : Int) (w : World) (h : arith_Add.f k a0 a1 = some (r1, r2)) :
    Calls Try.prog 34 #[.int .i64 a0, .int .i64 a1] w fun e w' => e = .returned (.tuple #[.int .i64 r1, .int .i64 r2]) ∧ Below w.heap.size w w' := by
  have HB := Aside0.mk (Below.refl w.heap.size w)
  have H : ((arith_may.f k (([a0, a1] : List Int))).bind fun t173 => (if t173 = true then ((arith_may.f k (([wrap64 (a0 + a1)] : List Int))).bind fun t177 => (if t177 = true then (some (wrap64 (a0 + a1), 0)) else (some (0, 5)))) else (some (0, 1)))) = some (r1, r2) := h
  clear h
  obtain ⟨y170, hy170⟩ : ∃ y_ : List Int, y_ = (([a0, a1] : List Int)) := ⟨_, rfl⟩
  replace H : ((arith_may.f k y170).bind fun t173 => (if t173 = true then ((arith_may.f k (([wrap64 (a0 + a1)] : List Int))).bind fun t177 => (if t177 = true then (some (wrap64 (a0 + a1), 0)) else (some (0, 5)))) else (some (0, 1)))) = some (r1, r2) := by first | (rw [hy170]; with_reducible exact H) | (have H2_ := (Option.bind_some _ _).symm.trans H; rw [hy170]; with_reducible exact H2_) | (have H2_ := (Option.bind_some _ _).symm.trans H; with_reducible exact H2_) | with_reducible exact H | (rw [hy170]; exact H) | exact H
  have Ny170 := Aside0.mk hy170
  clear hy170
  replace H := Option.bind_eq_some_iff.mp H
  obtain ⟨t173, A30, H⟩ := H
  replace H : (if t173 = true then ((arith_may.f k (([wrap64 (a0 + a1)] : List Int))).bind fun t177 => (if t177 = true then (some (wrap64 (a0 + a1), 0)) else (some (0, 5)))) else (some (0, 1))) = some (r1, r2) := H
  have A3 := Aside0.mk A30
  clear A30
  by_cases c4 : t173 = true
  · subst c4
    have H1 : ((arith_may.f k (([wrap64 (a0 + a1)] : List Int))).bind fun t177 => (if t177 = true then (some (wrap64 (a0 + a1), 0)) else (some (0, 5)))) = some (r1, r2) := by rw [if_pos rfl] at H; exact H
    clear H
    have H := H1
    clear H1
    obtain ⟨y174, hy174⟩ : ∃ y_ : List Int, y_ = (([wrap64 (a0 + a1)] : List Int)) := ⟨_, rfl⟩
    replace H : ((arith_may.f k y174).bind fun t177 => (if t177 = true then (some (wrap64 (a0 + a1), 0)) else (some (0, 5)))) = some (r1, r2) := by first | (rw [hy174]; with_reducible exact H) | (have H2_ := (Option.bind_some _ _).symm.trans H; rw [hy174]; with_reducible exact H2_) | (have H2_ := (Option.bind_some _ _).symm.trans H; with_reducible exact H2_) | with_reducible exact H | (rw [hy174]; exact H) | exact H
    have Ny174 := Aside0.mk hy174
    clear hy174
    replace H := Option.bind_eq_some_iff.mp H
    obtain ⟨t177, A50, H⟩ := H
    replace H : (if t177 = true then (some (wrap64 (a0 + a1), 0)) else (some (0, 5))) = some (r1, r2) := H
    have A5 := Aside0.mk A50
    clear A50
    by_cases c6 : t177 = true
    · subst c6
      have H1 : (some (wrap64 (a0 + a1), 0)) = some (r1, r2) := by rw [if_pos rfl] at H; exact H
      clear H
      have H := H1
      clear H1
      simp only [Option.some.injEq, Prod.mk.injEq] at H
      obtain ⟨rfl, rfl⟩ := H
      go_enter Try.func34, Try.ntmps34
      go_wp2_with (first | ((with_reducible refine gate_dst (N := 9) rfl ?_); refine Kd.R_lit (Kd.int .i64) _ 3 ?hg (N := 9) ?hd (xs := ([a0, a1] : List Int)) (inner := [.int .i64 a0, .int .i64 a1]) (ok := fun _ => True) (okp := fun _ => True) ?hr ?hp (fun _ hk => hk) trivial (Below.refl _ _) (Nat.le_refl _) (by simp) ?_; (case hd => rfl); (case hg => rfl); (case hr => first | (go_simp; done) | (go_simp; rfl)); (case hp => exact (Reps.one (show Kd.M (Kd.int .i64) _ _ _ a0 [.int .i64 a0] from rfl) (Reps.one (show Kd.M (Kd.int .i64) _ _ _ a1 [.int .i64 a1] from rfl) (Reps.none _ _)))); intro v171 w7 ho8 hb hg_ hnew_; clear hg_ hnew_; (first | rw [← Ny170.out] at ho8 | (simp only [Int.reduceToNat] at ho8; rw [← Ny170.out] at ho8)); have n0_ := Aside0.mk (Kd.R_lower ho8 (below_size (by repeat (first | (with_reducible first | exact HB.out | apply below_alloc | apply pw_below_drewN | apply below_drew1) | exact HB.out)))); have n1_ := Aside0.mk (below_step (by repeat (first | (with_reducible first | exact HB.out | apply below_alloc | apply pw_below_drewN | apply below_drew1) | exact HB.out)) hb); clear HB; have HO172 := n0_; have HB := n1_; clear n0_ n1_; clear hb ho8; obtain ⟨Ao9, co9, eo9⟩ := Kd.R_slice HO172.out; subst eo9) | ((with_reducible refine gate_callee (f := 39) rfl ?_); refine goesL_ (some 10) rfl rfl Try.func39 (by kernel_rfl) rfl #[.slice Ao9 y170.length co9] rfl (by (try simp only [List.map_toArray, List.map_cons, List.map_nil]); first | done | rfl | (simp only [List.length_drop, List.length_take]; rfl)) ?_; (with_reducible refine (arith_may.calls k _ _ y170 true _ ?side1 ?side2 A3.out).mono ?_); (case side1 => repeat (first | exact (Kd.R_reads' HO172.out).2.2 | (with_reducible refine Kd.C_alloc ?_ _) | (with_reducible refine Kd.C_drewN ?_ _) | (with_reducible refine Kd.C_drew ?_))); (case side2 => exact (Kd.R_reads' HO172.out).2.1); rintro e w' ⟨rfl, ⟨nd, rfl⟩⟩; refine ⟨_, rfl, ?_⟩) | ((with_reducible refine gate_dst (N := 16) rfl ?_); refine Kd.R_lit (Kd.int .i64) _ 3 ?hg (N := 16) ?hd (xs := ([wrap64 (a0 + a1)] : List Int)) (inner := [.int .i64 (wrap64 (a0 + a1))]) (ok := fun _ => True) (okp := fun _ => True) ?hr ?hp (fun _ hk => hk) trivial (Below.refl _ _) (Nat.le_refl _) (by simp) ?_; (case hd => rfl); (case hg => rfl); (case hr => first | (go_simp; done) | (go_simp; rfl)); (case hp => exact (Reps.one (show Kd.M (Kd.int .i64) _ _ _ (wrap64 (a0 + a1)) [.int .i64 (wrap64 (a0 + a1))] from rfl) (Reps.none _ _))); intro v175 w10 ho11 hb hg_ hnew_; clear hg_ hnew_; (first | rw [← Ny174.out] at ho11 | (simp only [Int.reduceToNat] at ho11; rw [← Ny174.out] at ho11)); have n0_ := Aside0.mk (Kd.R_elder' (by (with_reducible repeat (first | apply Kd.R_alloc | apply Kd.R_drewN | apply Kd.R_drew)); exact HO172.out) (Kd.R_base ho11) hb); have n1_ := Aside0.mk (Kd.R_lower (Kd.R_new' ho11 (Kd.R_lt (by (with_reducible repeat (first | apply Kd.R_alloc | apply Kd.R_drewN | apply Kd.R_drew)); exact HO172.out))) (below_size (by repeat (first | (with_reducible first | exact HB.out | apply below_alloc | apply pw_below_drewN | apply below_drew1) | exact HB.out)))); have n2_ := Aside0.mk (below_step (by repeat (first | (with_reducible first | exact HB.out | apply below_alloc | apply pw_below_drewN | apply below_drew1) | exact HB.out)) hb); clear HO172; clear HB; have HO172 := n0_; have HO176 := n1_; have HB := n2_; clear n0_ n1_ n2_; clear hb ho11; obtain ⟨Ao12, co12, eo12⟩ := Kd.R_slice HO176.out; subst eo12) | ((with_reducible refine gate_callee (f := 39) rfl ?_); refine goesL_ (some 17) rfl rfl Try.func39 (by kernel_rfl) rfl #[.slice Ao12 y174.length co12] rfl (by (try simp only [List.map_toArray, List.map_cons, List.map_nil]); first | done | rfl | (simp only [List.length_drop, List.length_take]; rfl)) ?_; (with_reducible refine (arith_may.calls k _ _ y174 true _ ?side1 ?side2 A5.out).mono ?_); (case side1 => repeat (first | exact (Kd.R_reads' HO176.out).2.2 | (with_reducible refine Kd.C_alloc ?_ _) | (with_reducible refine Kd.C_drewN ?_ _) | (with_reducible refine Kd.C_drew ?_))); (case side2 => exact (Kd.R_reads' HO176.out).2.1); rintro e w' ⟨rfl, ⟨nd, rfl⟩⟩; refine ⟨_, rfl, ?_⟩))
      go_ret2
      exact ⟨by first | rfl | (simp [errW_none, errW_some] <;> rfl) | (simp [*, errW_none, errW_some] <;> rfl), by repeat (first | (with_reducible first | exact HB.out | apply below_alloc | apply pw_below_drewN | apply below_drew1) | exact HB.out)⟩
    · replace c6 := Bool.eq_false_iff.mpr c6
      subst c6
      have H1 : (some (0, 5)) = some (r1, r2) := by rw [if_neg (show ¬ (false = true) by decide)] at H; exact H
      clear H
      have H := H1
      clear H1
      simp only [Option.some.injEq, Prod.mk.injEq] at H
      obtain ⟨rfl, rfl⟩ := H
      go_enter Try.func34, Try.ntmps34
      go_wp2_with (first | ((with_reducible refine gate_dst (N := 9) rfl ?_); refine Kd.R_lit (Kd.int .i64) _ 3 ?hg (N := 9) ?hd (xs := ([a0, a1] : List Int)) (inner := [.int .i64 a0, .int .i64 a1]) (ok := fun _ => True) (okp := fun _ => True) ?hr ?hp (fun _ hk => hk) trivial (Below.refl _ _) (Nat.le_refl _) (by simp) ?_; (case hd => rfl); (case hg => rfl); (case hr => first | (go_simp; done) | (go_simp; rfl)); (case hp => exact (Reps.one (show Kd.M (Kd.int .i64) _ _ _ a0 [.int .i64 a0] from rfl) (Reps.one (show Kd.M (Kd.int .i64) _ _ _ a1 [.int .i64 a1] from rfl) (Reps.none _ _)))); intro v171 w13 ho14 hb hg_ hnew_; clear hg_ hnew_; (first | rw [← Ny170.out] at ho14 | (simp only [Int.reduceToNat] at ho14; rw [← Ny170.out] at ho14)); have n0_ := Aside0.mk (Kd.R_lower ho14 (below_size (by repeat (first | (with_reducible first | exact HB.out | apply below_alloc | apply pw_below_drewN | apply below_drew1) | exact HB.out)))); have n1_ := Aside0.mk (below_step (by repeat (first | (with_reducible first | exact HB.out | apply below_alloc | apply pw_below_drewN | apply below_drew1) | exact HB.out)) hb); clear HB; have HO172 := n0_; have HB := n1_; clear n0_ n1_; clear hb ho14; obtain ⟨Ao15, co15, eo15⟩ := Kd.R_slice HO172.out; subst eo15) | ((with_reducible refine gate_callee (f := 39) rfl ?_); refine goesL_ (some 10) rfl rfl Try.func39 (by kernel_rfl) rfl #[.slice Ao15 y170.length co15] rfl (by (try simp only [List.map_toArray, List.map_cons, List.map_nil]); first | done | rfl | (simp only [List.length_drop, List.length_take]; rfl)) ?_; (with_reducible refine (arith_may.calls k _ _ y170 true _ ?side1 ?side2 A3.out).mono ?_); (case side1 => repeat (first | exact (Kd.R_reads' HO172.out).2.2 | (with_reducible refine Kd.C_alloc ?_ _) | (with_reducible refine Kd.C_drewN ?_ _) | (with_reducible refine Kd.C_drew ?_))); (case side2 => exact (Kd.R_reads' HO172.out).2.1); rintro e w' ⟨rfl, ⟨nd, rfl⟩⟩; refine ⟨_, rfl, ?_⟩) | ((with_reducible refine gate_dst (N := 16) rfl ?_); refine Kd.R_lit (Kd.int .i64) _ 3 ?hg (N := 16) ?hd (xs := ([wrap64 (a0 + a1)] : List Int)) (inner := [.int .i64 (wrap64 (a0 + a1))]) (ok := fun _ => True) (okp := fun _ => True) ?hr ?hp (fun _ hk => hk) trivial (Below.refl _ _) (Nat.le_refl _) (by simp) ?_; (case hd => rfl); (case hg => rfl); (case hr => first | (go_simp; done) | (go_simp; rfl)); (case hp => exact (Reps.one (show Kd.M (Kd.int .i64) _ _ _ (wrap64 (a0 + a1)) [.int .i64 (wrap64 (a0 + a1))] from rfl) (Reps.none _ _))); intro v175 w16 ho17 hb hg_ hnew_; clear hg_ hnew_; (first | rw [← Ny174.out] at ho17 | (simp only [Int.reduceToNat] at ho17; rw [← Ny174.out] at ho17)); have n0_ := Aside0.mk (Kd.R_elder' (by (with_reducible repeat (first | apply Kd.R_alloc | apply Kd.R_drewN | apply Kd.R_drew)); exact HO172.out) (Kd.R_base ho17) hb); have n1_ := Aside0.mk (Kd.R_lower (Kd.R_new' ho17 (Kd.R_lt (by (with_reducible repeat (first | apply Kd.R_alloc | apply Kd.R_drewN | apply Kd.R_drew)); exact HO172.out))) (below_size (by repeat (first | (with_reducible first | exact HB.out | apply below_alloc | apply pw_below_drewN | apply below_drew1) | exact HB.out)))); have n2_ := Aside0.mk (below_step (by repeat (first | (with_reducible first | exact HB.out | apply below_alloc | apply pw_below_drewN | apply below_drew1) | exact HB.out)) hb); clear HO172; clear HB; have HO172 := n0_; have HO176 := n1_; have HB := n2_; clear n0_ n1_ n2_; clear hb ho17; obtain ⟨Ao18, co18, eo18⟩ := Kd.R_slice HO176.out; subst eo18) | ((with_reducible refine gate_callee (f := 39) rfl ?_); refine goesL_ (some 17) rfl rfl Try.func39 (by kernel_rfl) rfl #[.slice Ao18 y174.length co18] rfl (by (try simp only [List.map_toArray, List.map_cons, List.map_nil]); first | done | rfl | (simp only [List.length_drop, List.length_take]; rfl)) ?_; (with_reducible refine (arith_may.calls k _ _ y174 false _ ?side1 ?side2 A5.out).mono ?_); (case side1 => repeat (first | exact (Kd.R_reads' HO176.out).2.2 | (with_reducible refine Kd.C_alloc ?_ _) | (with_reducible refine Kd.C_drewN ?_ _) | (with_reducible refine Kd.C_drew ?_))); (case side2 => exact (Kd.R_reads' HO176.out).2.1); rintro e w' ⟨rfl, ⟨nd, rfl⟩⟩; refine ⟨_, rfl, ?_⟩))
      go_ret2
      exact ⟨by first | rfl | (simp [errW_none, errW_some] <;> rfl) | (simp [*, errW_none, errW_some] <;> rfl), by repeat (first | (with_reducible first | exact HB.out | apply below_alloc | apply pw_below_drewN | apply below_drew1) | exact HB.out)⟩
  · replace c4 := Bool.eq_false_iff.mpr c4
    subst c4
    have H1 : (some (0, 1)) = some (r1, r2) := by rw [if_neg (show ¬ (false = true) by decide)] at H; exact H
    clear H
    have H := H1
    clear H1
    simp only [Option.some.injEq, Prod.mk.injEq] at H
    obtain ⟨rfl, rfl⟩ := H
    go_enter Try.func34, Try.ntmps34
    go_wp2_with (first | ((with_reducible refine gate_dst (N := 9) rfl ?_); refine Kd.R_lit (Kd.int .i64) _ 3 ?hg (N := 9) ?hd (xs := ([a0, a1] : List Int)) (inner := [.int .i64 a0, .int .i64 a1]) (ok := fun _ => True) (okp := fun _ => True) ?hr ?hp (fun _ hk => hk) trivial (Below.refl _ _) (Nat.le_refl _) (by simp) ?_; (case hd => rfl); (case hg => rfl); (case hr => first | (go_simp; done) | (go_simp; rfl)); (case hp => exact (Reps.one (show Kd.M (Kd.int .i64) _ _ _ a0 [.int .i64 a0] from rfl) (Reps.one (show Kd.M (Kd.int .i64) _ _ _ a1 [.int .i64 a1] from rfl) (Reps.none _ _)))); intro v171 w19 ho20 hb hg_ hnew_; clear hg_ hnew_; (first | rw [← Ny170.out] at ho20 | (simp only [Int.reduceToNat] at ho20; rw [← Ny170.out] at ho20)); have n0_ := Aside0.mk (Kd.R_lower ho20 (below_size (by repeat (first | (with_reducible first | exact HB.out | apply below_alloc | apply pw_below_drewN | apply below_drew1) | exact HB.out)))); have n1_ := Aside0.mk (below_step (by repeat (first | (with_reducible first | exact HB.out | apply below_alloc | apply pw_below_drewN | apply below_drew1) | exact HB.out)) hb); clear HB; have HO172 := n0_; have HB := n1_; clear n0_ n1_; clear hb ho20; obtain ⟨Ao21, co21, eo21⟩ := Kd.R_slice HO172.out; subst eo21) | ((with_reducible refine gate_callee (f := 39) rfl ?_); refine goesL_ (some 10) rfl rfl Try.func39 (by kernel_rfl) rfl #[.slice Ao21 y170.length co21] rfl (by (try simp only [List.map_toArray, List.map_cons, List.map_nil]); first | done | rfl | (simp only [List.length_drop, List.length_take]; rfl)) ?_; (with_reducible refine (arith_may.calls k _ _ y170 false _ ?side1 ?side2 A3.out).mono ?_); (case side1 => repeat (first | exact (Kd.R_reads' HO172.out).2.2 | (with_reducible refine Kd.C_alloc ?_ _) | (with_reducible refine Kd.C_drewN ?_ _) | (with_reducible refine Kd.C_drew ?_))); (case side2 => exact (Kd.R_reads' HO172.out).2.1); rintro e w' ⟨rfl, ⟨nd, rfl⟩⟩; refine ⟨_, rfl, ?_⟩))
    go_ret2
    exact ⟨by first | rfl | (simp [errW_none, errW_some] <;> rfl) | (simp [*, errW_none, errW_some] <;> rfl), by repeat (first | (with_reducible first | exact HB.out | apply below_alloc | apply pw_below_drewN | apply below_drew1) | exact HB.out)⟩

/-! ### remontoirref01_Add: function 36 -/
def remontoirref01_Add.f (a0 : Int) (a1 : Int) : Option (Int × Bool) := (remontoirref01_May.f (wrap64 (a0 + a1))).bind fun t178 => (if t178 = true then (some (wrap64 (a0 + a1), true)) else (some (0, false)))
set_option maxHeartbeats 8000000 in
set_option maxRecDepth 100000 in
theorem remontoirref01_Add.calls (a0 : Int) (a1 : Int) (r1 : Int) (r2 : Bool) (w : World) (h : remontoirref01_Add.f a0 a1 = some (r1, r2)) :
    Calls Try.prog 36 #[.int .i64 a0, .int .i64 a1] w fun e w' => e = .returned (.tuple #[.int .i64 r1, .bool r2]) ∧ Drawn0 w w' := by
  have H : ((remontoirref01_May.f (wrap64 (a0 + a1))).bind fun t178 => (if t178 = true then (some (wrap64 (a0 + a1), true)) else (some (0, false)))) = some (r1, r2) := h
  clear h
  replace H := Option.bind_eq_some_iff.mp H
  obtain ⟨t178, A30, H⟩ := H
  replace H : (if t178 = true then (some (wrap64 (a0 + a1), true)) else (some (0, false))) = some (r1, r2) := H
  have A3 := Aside0.mk A30
  clear A30
  by_cases c4 : t178 = true
  · subst c4
    have H1 : (some (wrap64 (a0 + a1), true)) = some (r1, r2) := by rw [if_pos rfl] at H; exact H
    clear H
    have H := H1
    clear H1
    simp only [Option.some.injEq, Prod.mk.injEq] at H
    obtain ⟨rfl, rfl⟩ := H
    go_enter Try.func36, Try.ntmps36
    go_wp2_with (first | ((with_reducible refine gate_callee (f := 40) rfl ?_); refine goesL_ (some 11) rfl rfl Try.func40 (by kernel_rfl) rfl #[.int .i64 (wrap64 (a0 + a1))] rfl (by (try simp only [List.map_toArray, List.map_cons, List.map_nil]); first | done | rfl | (simp only [List.length_drop, List.length_take]; rfl)) ?_; (with_reducible refine (remontoirref01_May.calls (wrap64 (a0 + a1)) true _ A3.out).mono ?_); rintro e w' ⟨rfl, ⟨nd, rfl⟩⟩; refine ⟨_, rfl, ?_⟩))
    go_ret2
    exact ⟨by first | rfl | (simp; done) | (simp [*]; done), by repeat (first | exact Drawn0.refl _ | apply Drawn0.step)⟩
  · replace c4 := Bool.eq_false_iff.mpr c4
    subst c4
    have H1 : (some (0, false)) = some (r1, r2) := by rw [if_neg (show ¬ (false = true) by decide)] at H; exact H
    clear H
    have H := H1
    clear H1
    simp only [Option.some.injEq, Prod.mk.injEq] at H
    obtain ⟨rfl, rfl⟩ := H
    go_enter Try.func36, Try.ntmps36
    go_wp2_with (first | ((with_reducible refine gate_callee (f := 40) rfl ?_); refine goesL_ (some 11) rfl rfl Try.func40 (by kernel_rfl) rfl #[.int .i64 (wrap64 (a0 + a1))] rfl (by (try simp only [List.map_toArray, List.map_cons, List.map_nil]); first | done | rfl | (simp only [List.length_drop, List.length_take]; rfl)) ?_; (with_reducible refine (remontoirref01_May.calls (wrap64 (a0 + a1)) false _ A3.out).mono ?_); rintro e w' ⟨rfl, ⟨nd, rfl⟩⟩; refine ⟨_, rfl, ?_⟩))
    go_ret2
    exact ⟨by first | rfl | (simp; done) | (simp [*]; done), by repeat (first | exact Drawn0.refl _ | apply Drawn0.step)⟩

/-! ### remontoirlaw01_ArithAdds: function 12 -/
def remontoirlaw01_ArithAdds.f (k : Nat) (a0 : Int) (a1 : Int) : Option (Bool) := (arith_Add.f k a0 a1).bind fun bt179 => ((arith_Mul.f k a0 a1).bind fun bt181 => ((remontoirlaw01_may.f a0 a1).bind fun t183 => (if t183 = true then ((remontoirref01_Add.f a0 a1).bind fun bt185 => ((remontoirref01_Mul.f k a0 a1).bind fun bt187 => ((remontoirlaw01_told.f bt179.1 bt179.2 bt185.1 bt185.2).bind fun t189 => (if t189 = true then ((remontoirlaw01_told.f bt181.1 bt181.2 bt187.1 bt187.2).bind fun t190 => (if t190 = true then ((remontoirlaw01_knows.f k).bind fun t191 => (some t191)) else (some false))) else (some false))))) else (if bt179.1 = 0 then (if bt179.2 = 1 then (if bt181.1 = 0 then (if bt181.2 = 1 then ((remontoirlaw01_knows.f k).bind fun t184 => (some t184)) else (some false)) else (some false)) else (some false)) else (some false)))))
theorem remontoirlaw01_ArithAdds.mono : ∀ a0 a1 k, LeO (remontoirlaw01_ArithAdds.f k a0 a1) (remontoirlaw01_ArithAdds.f (k + 1) a0 a1) := by
  intro a0 a1 k
  unfold remontoirlaw01_ArithAdds.f
  repeat' first
      | (with_reducible exact arith_Add.mono _ _ _)
      | (with_reducible exact arith_Mul.mono _ _ _)
      | (with_reducible exact remontoirlaw01_knows.mono _)
      | (with_reducible exact remontoirref01_Mul.mono _ _ _)
      | (with_reducible exact LeO.refl _)
      | (with_reducible exact LeO.none _)
      | (with_reducible refine LeO.ite ?_ ?_)
      | (with_reducible refine LeO.bind ?_ (fun _ => ?_))
      | exact arith_Add.mono _ _ _
      | exact arith_Mul.mono _ _ _
      | exact remontoirlaw01_knows.mono _
      | exact remontoirref01_Mul.mono _ _ _
      | exact LeO.none _
      | refine LeO.ite ?_ ?_
      | refine LeO.bind ?_ (fun _ => ?_)
set_option maxHeartbeats 8000000 in
set_option maxRecDepth 100000 in
theorem remontoirlaw01_ArithAdds.calls (k : Nat) (a0 : Int) (a1 : Int) (r : Bool) (w : World) (h : remontoirlaw01_ArithAdds.f k a0 a1 = some r) :
    Calls Try.prog 12 #[.int .i64 a0, .int .i64 a1] w fun e w' => e = .returned (.bool r) ∧ Below w.heap.size w w' := by
  have HB := Aside0.mk (Below.refl w.heap.size w)
  have H : ((arith_Add.f k a0 a1).bind fun bt179 => ((arith_Mul.f k a0 a1).bind fun bt181 => ((remontoirlaw01_may.f a0 a1).bind fun t183 => (if t183 = true then ((remontoirref01_Add.f a0 a1).bind fun bt185 => ((remontoirref01_Mul.f k a0 a1).bind fun bt187 => ((remontoirlaw01_told.f bt179.1 bt179.2 bt185.1 bt185.2).bind fun t189 => (if t189 = true then ((remontoirlaw01_told.f bt181.1 bt181.2 bt187.1 bt187.2).bind fun t190 => (if t190 = true then ((remontoirlaw01_knows.f k).bind fun t191 => (some t191)) else (some false))) else (some false))))) else (if bt179.1 = 0 then (if bt179.2 = 1 then (if bt181.1 = 0 then (if bt181.2 = 1 then ((remontoirlaw01_knows.f k).bind fun t184 => (some t184)) else (some false)) else (some false)) else (some false)) else (some false)))))) = some r := h
  clear h
  replace H := Option.bind_eq_some_iff.mp H
  obtain ⟨⟨t179, t180⟩, A30, H⟩ := H
  replace H : ((arith_Mul.f k a0 a1).bind fun bt181 => ((remontoirlaw01_may.f a0 a1).bind fun t183 => (if t183 = true then ((remontoirref01_Add.f a0 a1).bind fun bt185 => ((remontoirref01_Mul.f k a0 a1).bind fun bt187 => ((remontoirlaw01_told.f t179 t180 bt185.1 bt185.2).bind fun t189 => (if t189 = true then ((remontoirlaw01_told.f bt181.1 bt181.2 bt187.1 bt187.2).bind fun t190 => (if t190 = true then ((remontoirlaw01_knows.f k).bind fun t191 => (some t191)) else (some false))) else (some false))))) else (if t179 = 0 then (if t180 = 1 then (if bt181.1 = 0 then (if bt181.2 = 1 then ((remontoirlaw01_knows.f k).bind fun t184 => (some t184)) else (some false)) else (some false)) else (some false)) else (some false))))) = some r := H
  have A3 := Aside0.mk A30
  clear A30
  replace H := Option.bind_eq_some_iff.mp H
  obtain ⟨⟨t181, t182⟩, A40, H⟩ := H
  replace H : ((remontoirlaw01_may.f a0 a1).bind fun t183 => (if t183 = true then ((remontoirref01_Add.f a0 a1).bind fun bt185 => ((remontoirref01_Mul.f k a0 a1).bind fun bt187 => ((remontoirlaw01_told.f t179 t180 bt185.1 bt185.2).bind fun t189 => (if t189 = true then ((remontoirlaw01_told.f t181 t182 bt187.1 bt187.2).bind fun t190 => (if t190 = true then ((remontoirlaw01_knows.f k).bind fun t191 => (some t191)) else (some false))) else (some false))))) else (if t179 = 0 then (if t180 = 1 then (if t181 = 0 then (if t182 = 1 then ((remontoirlaw01_knows.f k).bind fun t184 => (some t184)) else (some false)) else (some false)) else (some false)) else (some false)))) = some r := H
  have A4 := Aside0.mk A40
  clear A40
  replace H := Option.bind_eq_some_iff.mp H
  obtain ⟨t183, A50, H⟩ := H
  replace H : (if t183 = true then ((remontoirref01_Add.f a0 a1).bind fun bt185 => ((remontoirref01_Mul.f k a0 a1).bind fun bt187 => ((remontoirlaw01_told.f t179 t180 bt185.1 bt185.2).bind fun t189 => (if t189 = true then ((remontoirlaw01_told.f t181 t182 bt187.1 bt187.2).bind fun t190 => (if t190 = true then ((remontoirlaw01_knows.f k).bind fun t191 => (some t191)) else (some false))) else (some false))))) else (if t179 = 0 then (if t180 = 1 then (if t181 = 0 then (if t182 = 1 then ((remontoirlaw01_knows.f k).bind fun t184 => (some t184)) else (some false)) else (some false)) else (some false)) else (some false))) = some r := H
  have A5 := Aside0.mk A50
  clear A50
  by_cases c6 : t183 = true
  · subst c6
    have H1 : ((remontoirref01_Add.f a0 a1).bind fun bt185 => ((remontoirref01_Mul.f k a0 a1).bind fun bt187 => ((remontoirlaw01_told.f t179 t180 bt185.1 bt185.2).bind fun t189 => (if t189 = true then ((remontoirlaw01_told.f t181 t182 bt187.1 bt187.2).bind fun t190 => (if t190 = true then ((remontoirlaw01_knows.f k).bind fun t191 => (some t191)) else (some false))) else (some false))))) = some r := by rw [if_pos rfl] at H; exact H
    clear H
    have H := H1
    clear H1
    replace H := Option.bind_eq_some_iff.mp H
    obtain ⟨⟨t185, t186⟩, A70, H⟩ := H
    replace H : ((remontoirref01_Mul.f k a0 a1).bind fun bt187 => ((remontoirlaw01_told.f t179 t180 t185 t186).bind fun t189 => (if t189 = true then ((remontoirlaw01_told.f t181 t182 bt187.1 bt187.2).bind fun t190 => (if t190 = true then ((remontoirlaw01_knows.f k).bind fun t191 => (some t191)) else (some false))) else (some false)))) = some r := H
    have A7 := Aside0.mk A70
    clear A70
    replace H := Option.bind_eq_some_iff.mp H
    obtain ⟨⟨t187, t188⟩, A80, H⟩ := H
    replace H : ((remontoirlaw01_told.f t179 t180 t185 t186).bind fun t189 => (if t189 = true then ((remontoirlaw01_told.f t181 t182 t187 t188).bind fun t190 => (if t190 = true then ((remontoirlaw01_knows.f k).bind fun t191 => (some t191)) else (some false))) else (some false))) = some r := H
    have A8 := Aside0.mk A80
    clear A80
    replace H := Option.bind_eq_some_iff.mp H
    obtain ⟨t189, A90, H⟩ := H
    replace H : (if t189 = true then ((remontoirlaw01_told.f t181 t182 t187 t188).bind fun t190 => (if t190 = true then ((remontoirlaw01_knows.f k).bind fun t191 => (some t191)) else (some false))) else (some false)) = some r := H
    have A9 := Aside0.mk A90
    clear A90
    by_cases c10 : t189 = true
    · subst c10
      have H1 : ((remontoirlaw01_told.f t181 t182 t187 t188).bind fun t190 => (if t190 = true then ((remontoirlaw01_knows.f k).bind fun t191 => (some t191)) else (some false))) = some r := by rw [if_pos rfl] at H; exact H
      clear H
      have H := H1
      clear H1
      replace H := Option.bind_eq_some_iff.mp H
      obtain ⟨t190, A110, H⟩ := H
      replace H : (if t190 = true then ((remontoirlaw01_knows.f k).bind fun t191 => (some t191)) else (some false)) = some r := H
      have A11 := Aside0.mk A110
      clear A110
      by_cases c12 : t190 = true
      · subst c12
        have H1 : ((remontoirlaw01_knows.f k).bind fun t191 => (some t191)) = some r := by rw [if_pos rfl] at H; exact H
        clear H
        have H := H1
        clear H1
        replace H := Option.bind_eq_some_iff.mp H
        obtain ⟨t191, A130, H⟩ := H
        replace H : (some t191) = some r := H
        have A13 := Aside0.mk A130
        clear A130
        obtain rfl := Option.some.inj H
        go_enter Try.func12, Try.ntmps12
        go_wp2_with (first | ((with_reducible refine gate_callee (f := 34) rfl ?_); refine goesL_ (some 16) rfl rfl Try.func34 (by kernel_rfl) rfl #[.int .i64 a0, .int .i64 a1] rfl (by (try simp only [List.map_toArray, List.map_cons, List.map_nil]); first | done | rfl | (simp only [List.length_drop, List.length_take]; rfl)) ?_; (with_reducible refine (arith_Add.calls k a0 a1 t179 t180 _ A3.out).mono ?_); rintro e w14 ⟨rfl, hb⟩; refine ⟨_, rfl, ?_⟩; have n0_ := Aside0.mk (below_step (by repeat (first | (with_reducible first | exact HB.out | apply below_alloc | apply pw_below_drewN | apply below_drew1) | exact HB.out)) hb); clear HB; have HB := n0_; clear n0_; (try clear hb); (try clear hb2); (try clear hk); (try clear hi)) | ((with_reducible refine gate_callee (f := 35) rfl ?_); refine goesL_ (some 22) rfl rfl Try.func35 (by kernel_rfl) rfl #[.int .i64 a0, .int .i64 a1] rfl (by (try simp only [List.map_toArray, List.map_cons, List.map_nil]); first | done | rfl | (simp only [List.length_drop, List.length_take]; rfl)) ?_; (with_reducible refine (arith_Mul.calls k a0 a1 t181 t182 _ A4.out).mono ?_); rintro e w15 ⟨rfl, hb⟩; refine ⟨_, rfl, ?_⟩; have n0_ := Aside0.mk (below_step (by repeat (first | (with_reducible first | exact HB.out | apply below_alloc | apply pw_below_drewN | apply below_drew1) | exact HB.out)) hb); clear HB; have HB := n0_; clear n0_; (try clear hb); (try clear hb2); (try clear hk); (try clear hi)) | ((with_reducible refine gate_callee (f := 26) rfl ?_); refine goesL_ (some 27) rfl rfl Try.func26 (by kernel_rfl) rfl #[.int .i64 a0, .int .i64 a1] rfl (by (try simp only [List.map_toArray, List.map_cons, List.map_nil]); first | done | rfl | (simp only [List.length_drop, List.length_take]; rfl)) ?_; (with_reducible refine (remontoirlaw01_may.calls a0 a1 true _ A5.out).mono ?_); rintro e w' ⟨rfl, ⟨nd, rfl⟩⟩; refine ⟨_, rfl, ?_⟩) | ((with_reducible refine gate_callee (f := 36) rfl ?_); refine goesL_ (some 49) rfl rfl Try.func36 (by kernel_rfl) rfl #[.int .i64 a0, .int .i64 a1] rfl (by (try simp only [List.map_toArray, List.map_cons, List.map_nil]); first | done | rfl | (simp only [List.length_drop, List.length_take]; rfl)) ?_; (with_reducible refine (remontoirref01_Add.calls a0 a1 t185 t186 _ A7.out).mono ?_); rintro e w' ⟨rfl, ⟨nd, rfl⟩⟩; refine ⟨_, rfl, ?_⟩) | ((with_reducible refine gate_callee (f := 37) rfl ?_); refine goesL_ (some 55) rfl rfl Try.func37 (by kernel_rfl) rfl #[.int .i64 a0, .int .i64 a1] rfl (by (try simp only [List.map_toArray, List.map_cons, List.map_nil]); first | done | rfl | (simp only [List.length_drop, List.length_take]; rfl)) ?_; (with_reducible refine (remontoirref01_Mul.calls k a0 a1 t187 t188 _ A8.out).mono ?_); rintro e w' ⟨rfl, ⟨nd, rfl⟩⟩; refine ⟨_, rfl, ?_⟩) | ((with_reducible refine gate_callee (f := 33) rfl ?_); refine goesL_ (some 62) rfl rfl Try.func33 (by kernel_rfl) rfl #[.int .i64 t179, .int .i64 t180, .int .i64 t185, .bool t186] rfl (by (try simp only [List.map_toArray, List.map_cons, List.map_nil]); first | done | rfl | (simp only [List.length_drop, List.length_take]; rfl)) ?_; (with_reducible refine (remontoirlaw01_told.calls t179 t180 t185 t186 true _ A9.out).mono ?_); rintro e w' ⟨rfl, ⟨nd, rfl⟩⟩; refine ⟨_, rfl, ?_⟩) | (go_at_call 33; (with_reducible refine (remontoirlaw01_told.calls t181 t182 t187 t188 true _ A11.out).mono ?_); rintro e w' ⟨rfl, ⟨nd, rfl⟩⟩) | (go_at_call 27; (with_reducible refine (remontoirlaw01_knows.calls k  t191 _ A13.out).mono ?_); rintro e w16 ⟨rfl, hb⟩; have n0_ := Aside0.mk (below_step (by repeat (first | (with_reducible first | exact HB.out | apply below_alloc | apply pw_below_drewN | apply below_drew1) | exact HB.out)) hb); clear HB; have HB := n0_; clear n0_; (try clear hb); (try clear hb2); (try clear hk); (try clear hi)))
        go_ret
        exact ⟨by first | rfl | (simp [errW_none, errW_some] <;> rfl) | (simp [*, errW_none, errW_some] <;> rfl), by repeat (first | (with_reducible first | exact HB.out | apply below_alloc | apply pw_below_drewN | apply below_drew1) | exact HB.out)⟩
      · replace c12 := Bool.eq_false_iff.mpr c12
        subst c12
        have H1 : (some false) = some r := by rw [if_neg (show ¬ (false = true) by decide)] at H; exact H
        clear H
        have H := H1
        clear H1
        obtain rfl := Option.some.inj H
        go_enter Try.func12, Try.ntmps12
        go_wp2_with (first | ((with_reducible refine gate_callee (f := 34) rfl ?_); refine goesL_ (some 16) rfl rfl Try.func34 (by kernel_rfl) rfl #[.int .i64 a0, .int .i64 a1] rfl (by (try simp only [List.map_toArray, List.map_cons, List.map_nil]); first | done | rfl | (simp only [List.length_drop, List.length_take]; rfl)) ?_; (with_reducible refine (arith_Add.calls k a0 a1 t179 t180 _ A3.out).mono ?_); rintro e w17 ⟨rfl, hb⟩; refine ⟨_, rfl, ?_⟩; have n0_ := Aside0.mk (below_step (by repeat (first | (with_reducible first | exact HB.out | apply below_alloc | apply pw_below_drewN | apply below_drew1) | exact HB.out)) hb); clear HB; have HB := n0_; clear n0_; (try clear hb); (try clear hb2); (try clear hk); (try clear hi)) | ((with_reducible refine gate_callee (f := 35) rfl ?_); refine goesL_ (some 22) rfl rfl Try.func35 (by kernel_rfl) rfl #[.int .i64 a0, .int .i64 a1] rfl (by (try simp only [List.map_toArray, List.map_cons, List.map_nil]); first | done | rfl | (simp only [List.length_drop, List.length_take]; rfl)) ?_; (with_reducible refine (arith_Mul.calls k a0 a1 t181 t182 _ A4.out).mono ?_); rintro e w18 ⟨rfl, hb⟩; refine ⟨_, rfl, ?_⟩; have n0_ := Aside0.mk (below_step (by repeat (first | (with_reducible first | exact HB.out | apply below_alloc | apply pw_below_drewN | apply below_drew1) | exact HB.out)) hb); clear HB; have HB := n0_; clear n0_; (try clear hb); (try clear hb2); (try clear hk); (try clear hi)) | ((with_reducible refine gate_callee (f := 26) rfl ?_); refine goesL_ (some 27) rfl rfl Try.func26 (by kernel_rfl) rfl #[.int .i64 a0, .int .i64 a1] rfl (by (try simp only [List.map_toArray, List.map_cons, List.map_nil]); first | done | rfl | (simp only [List.length_drop, List.length_take]; rfl)) ?_; (with_reducible refine (remontoirlaw01_may.calls a0 a1 true _ A5.out).mono ?_); rintro e w' ⟨rfl, ⟨nd, rfl⟩⟩; refine ⟨_, rfl, ?_⟩) | ((with_reducible refine gate_callee (f := 36) rfl ?_); refine goesL_ (some 49) rfl rfl Try.func36 (by kernel_rfl) rfl #[.int .i64 a0, .int .i64 a1] rfl (by (try simp only [List.map_toArray, List.map_cons, List.map_nil]); first | done | rfl | (simp only [List.length_drop, List.length_take]; rfl)) ?_; (with_reducible refine (remontoirref01_Add.calls a0 a1 t185 t186 _ A7.out).mono ?_); rintro e w' ⟨rfl, ⟨nd, rfl⟩⟩; refine ⟨_, rfl, ?_⟩) | ((with_reducible refine gate_callee (f := 37) rfl ?_); refine goesL_ (some 55) rfl rfl Try.func37 (by kernel_rfl) rfl #[.int .i64 a0, .int .i64 a1] rfl (by (try simp only [List.map_toArray, List.map_cons, List.map_nil]); first | done | rfl | (simp only [List.length_drop, List.length_take]; rfl)) ?_; (with_reducible refine (remontoirref01_Mul.calls k a0 a1 t187 t188 _ A8.out).mono ?_); rintro e w' ⟨rfl, ⟨nd, rfl⟩⟩; refine ⟨_, rfl, ?_⟩) | ((with_reducible refine gate_callee (f := 33) rfl ?_); refine goesL_ (some 62) rfl rfl Try.func33 (by kernel_rfl) rfl #[.int .i64 t179, .int .i64 t180, .int .i64 t185, .bool t186] rfl (by (try simp only [List.map_toArray, List.map_cons, List.map_nil]); first | done | rfl | (simp only [List.length_drop, List.length_take]; rfl)) ?_; (with_reducible refine (remontoirlaw01_told.calls t179 t180 t185 t186 true _ A9.out).mono ?_); rintro e w' ⟨rfl, ⟨nd, rfl⟩⟩; refine ⟨_, rfl, ?_⟩) | (go_at_call 33; (with_reducible refine (remontoirlaw01_told.calls t181 t182 t187 t188 false _ A11.out).mono ?_); rintro e w' ⟨rfl, ⟨nd, rfl⟩⟩))
        go_ret
        exact ⟨by first | rfl | (simp [errW_none, errW_some] <;> rfl) | (simp [*, errW_none, errW_some] <;> rfl), by repeat (first | (with_reducible first | exact HB.out | apply below_alloc | apply pw_below_drewN | apply below_drew1) | exact HB.out)⟩
    · replace c10 := Bool.eq_false_iff.mpr c10
      subst c10
      have H1 : (some false) = some r := by rw [if_neg (show ¬ (false = true) by decide)] at H; exact H
      clear H
      have H := H1
      clear H1
      obtain rfl := Option.some.inj H
      go_enter Try.func12, Try.ntmps12
      go_wp2_with (first | ((with_reducible refine gate_callee (f := 34) rfl ?_); refine goesL_ (some 16) rfl rfl Try.func34 (by kernel_rfl) rfl #[.int .i64 a0, .int .i64 a1] rfl (by (try simp only [List.map_toArray, List.map_cons, List.map_nil]); first | done | rfl | (simp only [List.length_drop, List.length_take]; rfl)) ?_; (with_reducible refine (arith_Add.calls k a0 a1 t179 t180 _ A3.out).mono ?_); rintro e w19 ⟨rfl, hb⟩; refine ⟨_, rfl, ?_⟩; have n0_ := Aside0.mk (below_step (by repeat (first | (with_reducible first | exact HB.out | apply below_alloc | apply pw_below_drewN | apply below_drew1) | exact HB.out)) hb); clear HB; have HB := n0_; clear n0_; (try clear hb); (try clear hb2); (try clear hk); (try clear hi)) | ((with_reducible refine gate_callee (f := 35) rfl ?_); refine goesL_ (some 22) rfl rfl Try.func35 (by kernel_rfl) rfl #[.int .i64 a0, .int .i64 a1] rfl (by (try simp only [List.map_toArray, List.map_cons, List.map_nil]); first | done | rfl | (simp only [List.length_drop, List.length_take]; rfl)) ?_; (with_reducible refine (arith_Mul.calls k a0 a1 t181 t182 _ A4.out).mono ?_); rintro e w20 ⟨rfl, hb⟩; refine ⟨_, rfl, ?_⟩; have n0_ := Aside0.mk (below_step (by repeat (first | (with_reducible first | exact HB.out | apply below_alloc | apply pw_below_drewN | apply below_drew1) | exact HB.out)) hb); clear HB; have HB := n0_; clear n0_; (try clear hb); (try clear hb2); (try clear hk); (try clear hi)) | ((with_reducible refine gate_callee (f := 26) rfl ?_); refine goesL_ (some 27) rfl rfl Try.func26 (by kernel_rfl) rfl #[.int .i64 a0, .int .i64 a1] rfl (by (try simp only [List.map_toArray, List.map_cons, List.map_nil]); first | done | rfl | (simp only [List.length_drop, List.length_take]; rfl)) ?_; (with_reducible refine (remontoirlaw01_may.calls a0 a1 true _ A5.out).mono ?_); rintro e w' ⟨rfl, ⟨nd, rfl⟩⟩; refine ⟨_, rfl, ?_⟩) | ((with_reducible refine gate_callee (f := 36) rfl ?_); refine goesL_ (some 49) rfl rfl Try.func36 (by kernel_rfl) rfl #[.int .i64 a0, .int .i64 a1] rfl (by (try simp only [List.map_toArray, List.map_cons, List.map_nil]); first | done | rfl | (simp only [List.length_drop, List.length_take]; rfl)) ?_; (with_reducible refine (remontoirref01_Add.calls a0 a1 t185 t186 _ A7.out).mono ?_); rintro e w' ⟨rfl, ⟨nd, rfl⟩⟩; refine ⟨_, rfl, ?_⟩) | ((with_reducible refine gate_callee (f := 37) rfl ?_); refine goesL_ (some 55) rfl rfl Try.func37 (by kernel_rfl) rfl #[.int .i64 a0, .int .i64 a1] rfl (by (try simp only [List.map_toArray, List.map_cons, List.map_nil]); first | done | rfl | (simp only [List.length_drop, List.length_take]; rfl)) ?_; (with_reducible refine (remontoirref01_Mul.calls k a0 a1 t187 t188 _ A8.out).mono ?_); rintro e w' ⟨rfl, ⟨nd, rfl⟩⟩; refine ⟨_, rfl, ?_⟩) | ((with_reducible refine gate_callee (f := 33) rfl ?_); refine goesL_ (some 62) rfl rfl Try.func33 (by kernel_rfl) rfl #[.int .i64 t179, .int .i64 t180, .int .i64 t185, .bool t186] rfl (by (try simp only [List.map_toArray, List.map_cons, List.map_nil]); first | done | rfl | (simp only [List.length_drop, List.length_take]; rfl)) ?_; (with_reducible refine (remontoirlaw01_told.calls t179 t180 t185 t186 false _ A9.out).mono ?_); rintro e w' ⟨rfl, ⟨nd, rfl⟩⟩; refine ⟨_, rfl, ?_⟩))
      go_ret
      exact ⟨by first | rfl | (simp [errW_none, errW_some] <;> rfl) | (simp [*, errW_none, errW_some] <;> rfl), by repeat (first | (with_reducible first | exact HB.out | apply below_alloc | apply pw_below_drewN | apply below_drew1) | exact HB.out)⟩
  · replace c6 := Bool.eq_false_iff.mpr c6
    subst c6
    have H1 : (if t179 = 0 then (if t180 = 1 then (if t181 = 0 then (if t182 = 1 then ((remontoirlaw01_knows.f k).bind fun t184 => (some t184)) else (some false)) else (some false)) else (some false)) else (some false)) = some r := by rw [if_neg (show ¬ (false = true) by decide)] at H; exact H
    clear H
    have H := H1
    clear H1
    by_cases c21 : t179 = 0
    · rw [if_pos c21] at H
      have c21b0 : (t179 == 0) = true := beq_iff_eq.mpr c21
      have c21b1 : (t179 != 0) = false := bne_eq_false_iff_eq.mpr c21
      clear c21
      by_cases c22 : t180 = 1
      · rw [if_pos c22] at H
        have c22b0 : (t180 == 1) = true := beq_iff_eq.mpr c22
        have c22b1 : (t180 != 1) = false := bne_eq_false_iff_eq.mpr c22
        clear c22
        by_cases c23 : t181 = 0
        · rw [if_pos c23] at H
          have c23b0 : (t181 == 0) = true := beq_iff_eq.mpr c23
          have c23b1 : (t181 != 0) = false := bne_eq_false_iff_eq.mpr c23
          clear c23
          by_cases c24 : t182 = 1
          · rw [if_pos c24] at H
            have c24b0 : (t182 == 1) = true := beq_iff_eq.mpr c24
            have c24b1 : (t182 != 1) = false := bne_eq_false_iff_eq.mpr c24
            clear c24
            replace H := Option.bind_eq_some_iff.mp H
            obtain ⟨t184, A250, H⟩ := H
            replace H : (some t184) = some r := H
            have A25 := Aside0.mk A250
            clear A250
            obtain rfl := Option.some.inj H
            go_enter Try.func12, Try.ntmps12
            go_wp2_with (first | ((with_reducible refine gate_callee (f := 34) rfl ?_); refine goesL_ (some 16) rfl rfl Try.func34 (by kernel_rfl) rfl #[.int .i64 a0, .int .i64 a1] rfl (by (try simp only [List.map_toArray, List.map_cons, List.map_nil]); first | done | rfl | (simp only [List.length_drop, List.length_take]; rfl)) ?_; (with_reducible refine (arith_Add.calls k a0 a1 t179 t180 _ A3.out).mono ?_); rintro e w26 ⟨rfl, hb⟩; refine ⟨_, rfl, ?_⟩; have n0_ := Aside0.mk (below_step (by repeat (first | (with_reducible first | exact HB.out | apply below_alloc | apply pw_below_drewN | apply below_drew1) | exact HB.out)) hb); clear HB; have HB := n0_; clear n0_; (try clear hb); (try clear hb2); (try clear hk); (try clear hi)) | ((with_reducible refine gate_callee (f := 35) rfl ?_); refine goesL_ (some 22) rfl rfl Try.func35 (by kernel_rfl) rfl #[.int .i64 a0, .int .i64 a1] rfl (by (try simp only [List.map_toArray, List.map_cons, List.map_nil]); first | done | rfl | (simp only [List.length_drop, List.length_take]; rfl)) ?_; (with_reducible refine (arith_Mul.calls k a0 a1 t181 t182 _ A4.out).mono ?_); rintro e w27 ⟨rfl, hb⟩; refine ⟨_, rfl, ?_⟩; have n0_ := Aside0.mk (below_step (by repeat (first | (with_reducible first | exact HB.out | apply below_alloc | apply pw_below_drewN | apply below_drew1) | exact HB.out)) hb); clear HB; have HB := n0_; clear n0_; (try clear hb); (try clear hb2); (try clear hk); (try clear hi)) | ((with_reducible refine gate_callee (f := 26) rfl ?_); refine goesL_ (some 27) rfl rfl Try.func26 (by kernel_rfl) rfl #[.int .i64 a0, .int .i64 a1] rfl (by (try simp only [List.map_toArray, List.map_cons, List.map_nil]); first | done | rfl | (simp only [List.length_drop, List.length_take]; rfl)) ?_; (with_reducible refine (remontoirlaw01_may.calls a0 a1 false _ A5.out).mono ?_); rintro e w' ⟨rfl, ⟨nd, rfl⟩⟩; refine ⟨_, rfl, ?_⟩) | (go_at_call 27; (with_reducible refine (remontoirlaw01_knows.calls k  t184 _ A25.out).mono ?_); rintro e w28 ⟨rfl, hb⟩; have n0_ := Aside0.mk (below_step (by repeat (first | (with_reducible first | exact HB.out | apply below_alloc | apply pw_below_drewN | apply below_drew1) | exact HB.out)) hb); clear HB; have HB := n0_; clear n0_; (try clear hb); (try clear hb2); (try clear hk); (try clear hi)))
            go_ret
            exact ⟨by first | rfl | (simp [errW_none, errW_some] <;> rfl) | (simp [*, errW_none, errW_some] <;> rfl), by repeat (first | (with_reducible first | exact HB.out | apply below_alloc | apply pw_below_drewN | apply below_drew1) | exact HB.out)⟩
          · rw [if_neg c24] at H
            have c24b0 : (t182 == 1) = false := beq_eq_false_iff_ne.mpr c24
            have c24b1 : (t182 != 1) = true := bne_iff_ne.mpr c24
            obtain rfl := Option.some.inj H
            go_enter Try.func12, Try.ntmps12
            go_wp2_with (first | ((with_reducible refine gate_callee (f := 34) rfl ?_); refine goesL_ (some 16) rfl rfl Try.func34 (by kernel_rfl) rfl #[.int .i64 a0, .int .i64 a1] rfl (by (try simp only [List.map_toArray, List.map_cons, List.map_nil]); first | done | rfl | (simp only [List.length_drop, List.length_take]; rfl)) ?_; (with_reducible refine (arith_Add.calls k a0 a1 t179 t180 _ A3.out).mono ?_); rintro e w29 ⟨rfl, hb⟩; refine ⟨_, rfl, ?_⟩; have n0_ := Aside0.mk (below_step (by repeat (first | (with_reducible first | exact HB.out | apply below_alloc | apply pw_below_drewN | apply below_drew1) | exact HB.out)) hb); clear HB; have HB := n0_; clear n0_; (try clear hb); (try clear hb2); (try clear hk); (try clear hi)) | ((with_reducible refine gate_callee (f := 35) rfl ?_); refine goesL_ (some 22) rfl rfl Try.func35 (by kernel_rfl) rfl #[.int .i64 a0, .int .i64 a1] rfl (by (try simp only [List.map_toArray, List.map_cons, List.map_nil]); first | done | rfl | (simp only [List.length_drop, List.length_take]; rfl)) ?_; (with_reducible refine (arith_Mul.calls k a0 a1 t181 t182 _ A4.out).mono ?_); rintro e w30 ⟨rfl, hb⟩; refine ⟨_, rfl, ?_⟩; have n0_ := Aside0.mk (below_step (by repeat (first | (with_reducible first | exact HB.out | apply below_alloc | apply pw_below_drewN | apply below_drew1) | exact HB.out)) hb); clear HB; have HB := n0_; clear n0_; (try clear hb); (try clear hb2); (try clear hk); (try clear hi)) | ((with_reducible refine gate_callee (f := 26) rfl ?_); refine goesL_ (some 27) rfl rfl Try.func26 (by kernel_rfl) rfl #[.int .i64 a0, .int .i64 a1] rfl (by (try simp only [List.map_toArray, List.map_cons, List.map_nil]); first | done | rfl | (simp only [List.length_drop, List.length_take]; rfl)) ?_; (with_reducible refine (remontoirlaw01_may.calls a0 a1 false _ A5.out).mono ?_); rintro e w' ⟨rfl, ⟨nd, rfl⟩⟩; refine ⟨_, rfl, ?_⟩))
            go_ret
            exact ⟨by first | rfl | (simp [errW_none, errW_some] <;> rfl) | (simp [*, errW_none, errW_some] <;> rfl), by repeat (first | (with_reducible first | exact HB.out | apply below_alloc | apply pw_below_drewN | apply below_drew1) | exact HB.out)⟩
        · rw [if_neg c23] at H
          have c23b0 : (t181 == 0) = false := beq_eq_false_iff_ne.mpr c23
          have c23b1 : (t181 != 0) = true := bne_iff_ne.mpr c23
          obtain rfl := Option.some.inj H
          go_enter Try.func12, Try.ntmps12
          go_wp2_with (first | ((with_reducible refine gate_callee (f := 34) rfl ?_); refine goesL_ (some 16) rfl rfl Try.func34 (by kernel_rfl) rfl #[.int .i64 a0, .int .i64 a1] rfl (by (try simp only [List.map_toArray, List.map_cons, List.map_nil]); first | done | rfl | (simp only [List.length_drop, List.length_take]; rfl)) ?_; (with_reducible refine (arith_Add.calls k a0 a1 t179 t180 _ A3.out).mono ?_); rintro e w31 ⟨rfl, hb⟩; refine ⟨_, rfl, ?_⟩; have n0_ := Aside0.mk (below_step (by repeat (first | (with_reducible first | exact HB.out | apply below_alloc | apply pw_below_drewN | apply below_drew1) | exact HB.out)) hb); clear HB; have HB := n0_; clear n0_; (try clear hb); (try clear hb2); (try clear hk); (try clear hi)) | ((with_reducible refine gate_callee (f := 35) rfl ?_); refine goesL_ (some 22) rfl rfl Try.func35 (by kernel_rfl) rfl #[.int .i64 a0, .int .i64 a1] rfl (by (try simp only [List.map_toArray, List.map_cons, List.map_nil]); first | done | rfl | (simp only [List.length_drop, List.length_take]; rfl)) ?_; (with_reducible refine (arith_Mul.calls k a0 a1 t181 t182 _ A4.out).mono ?_); rintro e w32 ⟨rfl, hb⟩; refine ⟨_, rfl, ?_⟩; have n0_ := Aside0.mk (below_step (by repeat (first | (with_reducible first | exact HB.out | apply below_alloc | apply pw_below_drewN | apply below_drew1) | exact HB.out)) hb); clear HB; have HB := n0_; clear n0_; (try clear hb); (try clear hb2); (try clear hk); (try clear hi)) | ((with_reducible refine gate_callee (f := 26) rfl ?_); refine goesL_ (some 27) rfl rfl Try.func26 (by kernel_rfl) rfl #[.int .i64 a0, .int .i64 a1] rfl (by (try simp only [List.map_toArray, List.map_cons, List.map_nil]); first | done | rfl | (simp only [List.length_drop, List.length_take]; rfl)) ?_; (with_reducible refine (remontoirlaw01_may.calls a0 a1 false _ A5.out).mono ?_); rintro e w' ⟨rfl, ⟨nd, rfl⟩⟩; refine ⟨_, rfl, ?_⟩))
          go_ret
          exact ⟨by first | rfl | (simp [errW_none, errW_some] <;> rfl) | (simp [*, errW_none, errW_some] <;> rfl), by repeat (first | (with_reducible first | exact HB.out | apply below_alloc | apply pw_below_drewN | apply below_drew1) | exact HB.out)⟩
      · rw [if_neg c22] at H
        have c22b0 : (t180 == 1) = false := beq_eq_false_iff_ne.mpr c22
        have c22b1 : (t180 != 1) = true := bne_iff_ne.mpr c22
        obtain rfl := Option.some.inj H
        go_enter Try.func12, Try.ntmps12
        go_wp2_with (first | ((with_reducible refine gate_callee (f := 34) rfl ?_); refine goesL_ (some 16) rfl rfl Try.func34 (by kernel_rfl) rfl #[.int .i64 a0, .int .i64 a1] rfl (by (try simp only [List.map_toArray, List.map_cons, List.map_nil]); first | done | rfl | (simp only [List.length_drop, List.length_take]; rfl)) ?_; (with_reducible refine (arith_Add.calls k a0 a1 t179 t180 _ A3.out).mono ?_); rintro e w33 ⟨rfl, hb⟩; refine ⟨_, rfl, ?_⟩; have n0_ := Aside0.mk (below_step (by repeat (first | (with_reducible first | exact HB.out | apply below_alloc | apply pw_below_drewN | apply below_drew1) | exact HB.out)) hb); clear HB; have HB := n0_; clear n0_; (try clear hb); (try clear hb2); (try clear hk); (try clear hi)) | ((with_reducible refine gate_callee (f := 35) rfl ?_); refine goesL_ (some 22) rfl rfl Try.func35 (by kernel_rfl) rfl #[.int .i64 a0, .int .i64 a1] rfl (by (try simp only [List.map_toArray, List.map_cons, List.map_nil]); first | done | rfl | (simp only [List.length_drop, List.length_take]; rfl)) ?_; (with_reducible refine (arith_Mul.calls k a0 a1 t181 t182 _ A4.out).mono ?_); rintro e w34 ⟨rfl, hb⟩; refine ⟨_, rfl, ?_⟩; have n0_ := Aside0.mk (below_step (by repeat (first | (with_reducible first | exact HB.out | apply below_alloc | apply pw_below_drewN | apply below_drew1) | exact HB.out)) hb); clear HB; have HB := n0_; clear n0_; (try clear hb); (try clear hb2); (try clear hk); (try clear hi)) | ((with_reducible refine gate_callee (f := 26) rfl ?_); refine goesL_ (some 27) rfl rfl Try.func26 (by kernel_rfl) rfl #[.int .i64 a0, .int .i64 a1] rfl (by (try simp only [List.map_toArray, List.map_cons, List.map_nil]); first | done | rfl | (simp only [List.length_drop, List.length_take]; rfl)) ?_; (with_reducible refine (remontoirlaw01_may.calls a0 a1 false _ A5.out).mono ?_); rintro e w' ⟨rfl, ⟨nd, rfl⟩⟩; refine ⟨_, rfl, ?_⟩))
        go_ret
        exact ⟨by first | rfl | (simp [errW_none, errW_some] <;> rfl) | (simp [*, errW_none, errW_some] <;> rfl), by repeat (first | (with_reducible first | exact HB.out | apply below_alloc | apply pw_below_drewN | apply below_drew1) | exact HB.out)⟩
    · rw [if_neg c21] at H
      have c21b0 : (t179 == 0) = false := beq_eq_false_iff_ne.mpr c21
      have c21b1 : (t179 != 0) = true := bne_iff_ne.mpr c21
      obtain rfl := Option.some.inj H
      go_enter Try.func12, Try.ntmps12
      go_wp2_with (first | ((with_reducible refine gate_callee (f := 34) rfl ?_); refine goesL_ (some 16) rfl rfl Try.func34 (by kernel_rfl) rfl #[.int .i64 a0, .int .i64 a1] rfl (by (try simp only [List.map_toArray, List.map_cons, List.map_nil]); first | done | rfl | (simp only [List.length_drop, List.length_take]; rfl)) ?_; (with_reducible refine (arith_Add.calls k a0 a1 t179 t180 _ A3.out).mono ?_); rintro e w35 ⟨rfl, hb⟩; refine ⟨_, rfl, ?_⟩; have n0_ := Aside0.mk (below_step (by repeat (first | (with_reducible first | exact HB.out | apply below_alloc | apply pw_below_drewN | apply below_drew1) | exact HB.out)) hb); clear HB; have HB := n0_; clear n0_; (try clear hb); (try clear hb2); (try clear hk); (try clear hi)) | ((with_reducible refine gate_callee (f := 35) rfl ?_); refine goesL_ (some 22) rfl rfl Try.func35 (by kernel_rfl) rfl #[.int .i64 a0, .int .i64 a1] rfl (by (try simp only [List.map_toArray, List.map_cons, List.map_nil]); first | done | rfl | (simp only [List.length_drop, List.length_take]; rfl)) ?_; (with_reducible refine (arith_Mul.calls k a0 a1 t181 t182 _ A4.out).mono ?_); rintro e w36 ⟨rfl, hb⟩; refine ⟨_, rfl, ?_⟩; have n0_ := Aside0.mk (below_step (by repeat (first | (with_reducible first | exact HB.out | apply below_alloc | apply pw_below_drewN | apply below_drew1) | exact HB.out)) hb); clear HB; have HB := n0_; clear n0_; (try clear hb); (try clear hb2); (try clear hk); (try clear hi)) | ((with_reducible refine gate_callee (f := 26) rfl ?_); refine goesL_ (some 27) rfl rfl Try.func26 (by kernel_rfl) rfl #[.int .i64 a0, .int .i64 a1] rfl (by (try simp only [List.map_toArray, List.map_cons, List.map_nil]); first | done | rfl | (simp only [List.length_drop, List.length_take]; rfl)) ?_; (with_reducible refine (remontoirlaw01_may.calls a0 a1 false _ A5.out).mono ?_); rintro e w' ⟨rfl, ⟨nd, rfl⟩⟩; refine ⟨_, rfl, ?_⟩))
      go_ret
      exact ⟨by first | rfl | (simp [errW_none, errW_some] <;> rfl) | (simp [*, errW_none, errW_some] <;> rfl), by repeat (first | (with_reducible first | exact HB.out | apply below_alloc | apply pw_below_drewN | apply below_drew1) | exact HB.out)⟩

/-- THE ONE PURE STATEMENT of remontoirlaw01_ArithAdds: yours. -/
def remontoirlaw01_ArithAdds.Pure : Prop := ∀ (a0 : Int) (a1 : Int), (Lit.int .i64 a0).wf = true → (Lit.int .i64 a1).wf = true → ∃ k, remontoirlaw01_ArithAdds.f k a0 a1 = some true
theorem remontoirlaw01_ArithAdds.walk (P : remontoirlaw01_ArithAdds.Pure) (a0 : Int) (a1 : Int) (w : World) (w0 : (Lit.int .i64 a0).wf = true) (w1 : (Lit.int .i64 a1).wf = true) :
    Calls Try.prog 12 #[.int .i64 a0, .int .i64 a1] w fun e w' => e = .returned (.bool true) ∧ Below w.heap.size w w' := by
  obtain ⟨k, h⟩ := P a0 a1 w0 w1
  refine (remontoirlaw01_ArithAdds.calls k a0 a1 true w h).mono ?_
  rintro e w' ⟨rfl, hd⟩
  exact ⟨rfl, hd⟩

/-! ### remontoirlaw01_ArithOrders: function 13 -/
mutual
def remontoirlaw01_ArithOrders.j0 : Nat → Int → Int → Bool → Option (Bool)
  | 0, _, _, _ => none
  | k + 1, x0, x1, x58 => if x58 = true then (some false) else ((arith_Floor.f k x0 x1).bind fun bt200 => ((arith_Ceil.f k x0 x1).bind fun bt202 => (if bt200.2 = 0 then (remontoirlaw01_ArithOrders.j1 k x0 x1 bt200.1 bt200.2 bt202.1 bt202.2 (bt202.2 != 0)) else (remontoirlaw01_ArithOrders.j1 k x0 x1 bt200.1 bt200.2 bt202.1 bt202.2 true))))
def remontoirlaw01_ArithOrders.j1 : Nat → Int → Int → Int → Int → Int → Int → Bool → Option (Bool)
  | 0, _, _, _, _, _, _, _ => none
  | k + 1, x0, x1, x13, x14, x15, x16, x76 => if x76 = true then (if x14 = x16 then ((remontoirlaw01_knows.f k).bind fun t204 => (some t204)) else (some false)) else (if (wrap64 (x13 * x1)) ≤ x0 then (if (wrap64 (x0 - (wrap64 (x13 * x1)))) < x1 then (if (wrap64 (x15 * x1)) ≥ x0 then (if (wrap64 ((wrap64 (x15 * x1)) - x0)) < x1 then ((remontoirlaw01_knows.f k).bind fun t205 => (some t205)) else (some false)) else (some false)) else (some false)) else (some false))
end
def remontoirlaw01_ArithOrders.f (k : Nat) (a0 : Int) (a1 : Int) : Option (Bool) := (arith_Add.f k a0 a1).bind fun bt192 => ((arith_Add.f k a1 a0).bind fun bt194 => ((arith_Mul.f k a0 a1).bind fun bt196 => ((arith_Mul.f k a1 a0).bind fun bt198 => (if bt192.1 = bt194.1 then (if bt192.2 = bt194.2 then (if bt196.1 = bt198.1 then (remontoirlaw01_ArithOrders.j0 k a0 a1 (bt196.2 != bt198.2)) else (remontoirlaw01_ArithOrders.j0 k a0 a1 true)) else (remontoirlaw01_ArithOrders.j0 k a0 a1 true)) else (remontoirlaw01_ArithOrders.j0 k a0 a1 true)))))
theorem remontoirlaw01_ArithOrders.mono_l : ∀ k, (∀ y0 y1 y2, LeO (remontoirlaw01_ArithOrders.j0 k y0 y1 y2) (remontoirlaw01_ArithOrders.j0 (k + 1) y0 y1 y2)) ∧ (∀ y0 y1 y2 y3 y4 y5 y6, LeO (remontoirlaw01_ArithOrders.j1 k y0 y1 y2 y3 y4 y5 y6) (remontoirlaw01_ArithOrders.j1 (k + 1) y0 y1 y2 y3 y4 y5 y6))
  | 0 => ⟨fun _ _ _ r h => by simp [remontoirlaw01_ArithOrders.j0] at h, fun _ _ _ _ _ _ _ r h => by simp [remontoirlaw01_ArithOrders.j1] at h⟩
  | k + 1 => by
    obtain ⟨ih0, ih1⟩ := remontoirlaw01_ArithOrders.mono_l k
    refine ⟨?_, ?_⟩
    · intro y0 y1 y2
      unfold remontoirlaw01_ArithOrders.j0
      repeat' first
      | (with_reducible exact ih0 _ _ _)
      | (with_reducible exact ih1 _ _ _ _ _ _ _)
      | (with_reducible exact arith_Add.mono _ _ _)
      | (with_reducible exact arith_Ceil.mono _ _ _)
      | (with_reducible exact arith_Floor.mono _ _ _)
      | (with_reducible exact arith_Mul.mono _ _ _)
      | (with_reducible exact remontoirlaw01_knows.mono _)
      | (with_reducible exact LeO.refl _)
      | (with_reducible exact LeO.none _)
      | (with_reducible refine LeO.ite ?_ ?_)
      | (with_reducible refine LeO.bind ?_ (fun _ => ?_))
      | exact ih0 _ _ _
      | exact ih1 _ _ _ _ _ _ _
      | exact arith_Add.mono _ _ _
      | exact arith_Ceil.mono _ _ _
      | exact arith_Floor.mono _ _ _
      | exact arith_Mul.mono _ _ _
      | exact remontoirlaw01_knows.mono _
      | exact LeO.none _
      | refine LeO.ite ?_ ?_
      | refine LeO.bind ?_ (fun _ => ?_)
    · intro y0 y1 y2 y3 y4 y5 y6
      unfold remontoirlaw01_ArithOrders.j1
      repeat' first
      | (with_reducible exact ih0 _ _ _)
      | (with_reducible exact ih1 _ _ _ _ _ _ _)
      | (with_reducible exact arith_Add.mono _ _ _)
      | (with_reducible exact arith_Ceil.mono _ _ _)
      | (with_reducible exact arith_Floor.mono _ _ _)
      | (with_reducible exact arith_Mul.mono _ _ _)
      | (with_reducible exact remontoirlaw01_knows.mono _)
      | (with_reducible exact LeO.refl _)
      | (with_reducible exact LeO.none _)
      | (with_reducible refine LeO.ite ?_ ?_)
      | (with_reducible refine LeO.bind ?_ (fun _ => ?_))
      | exact ih0 _ _ _
      | exact ih1 _ _ _ _ _ _ _
      | exact arith_Add.mono _ _ _
      | exact arith_Ceil.mono _ _ _
      | exact arith_Floor.mono _ _ _
      | exact arith_Mul.mono _ _ _
      | exact remontoirlaw01_knows.mono _
      | exact LeO.none _
      | refine LeO.ite ?_ ?_
      | refine LeO.bind ?_ (fun _ => ?_)
theorem remontoirlaw01_ArithOrders.mono : ∀ a0 a1 k, LeO (remontoirlaw01_ArithOrders.f k a0 a1) (remontoirlaw01_ArithOrders.f (k + 1) a0 a1) := by
  intro a0 a1 k
  obtain ⟨ih0, ih1⟩ := remontoirlaw01_ArithOrders.mono_l k
  unfold remontoirlaw01_ArithOrders.f
  repeat' first
      | (with_reducible exact ih0 _ _ _)
      | (with_reducible exact ih1 _ _ _ _ _ _ _)
      | (with_reducible exact arith_Add.mono _ _ _)
      | (with_reducible exact arith_Ceil.mono _ _ _)
      | (with_reducible exact arith_Floor.mono _ _ _)
      | (with_reducible exact arith_Mul.mono _ _ _)
      | (with_reducible exact remontoirlaw01_knows.mono _)
      | (with_reducible exact LeO.refl _)
      | (with_reducible exact LeO.none _)
      | (with_reducible refine LeO.ite ?_ ?_)
      | (with_reducible refine LeO.bind ?_ (fun _ => ?_))
      | exact ih0 _ _ _
      | exact ih1 _ _ _ _ _ _ _
      | exact arith_Add.mono _ _ _
      | exact arith_Ceil.mono _ _ _
      | exact arith_Floor.mono _ _ _
      | exact arith_Mul.mono _ _ _
      | exact remontoirlaw01_knows.mono _
      | exact LeO.none _
      | refine LeO.ite ?_ ?_
      | refine LeO.bind ?_ (fun _ => ?_)
set_option maxHeartbeats 8000000 in
set_option maxRecDepth 100000 in
theorem remontoirlaw01_ArithOrders.calls (k : Nat) (a0 : Int) (a1 : Int) (r : Bool) (w : World) (h : remontoirlaw01_ArithOrders.f k a0 a1 = some r) :
    Calls Try.prog 13 #[.int .i64 a0, .int .i64 a1] w fun e w' => e = .returned (.bool r) ∧ Below w.heap.size w w' := by
  have HB := Aside0.mk (Below.refl w.heap.size w)
  have H : ((arith_Add.f k a0 a1).bind fun bt192 => ((arith_Add.f k a1 a0).bind fun bt194 => ((arith_Mul.f k a0 a1).bind fun bt196 => ((arith_Mul.f k a1 a0).bind fun bt198 => (if bt192.1 = bt194.1 then (if bt192.2 = bt194.2 then (if bt196.1 = bt198.1 then (remontoirlaw01_ArithOrders.j0 k a0 a1 (bt196.2 != bt198.2)) else (remontoirlaw01_ArithOrders.j0 k a0 a1 true)) else (remontoirlaw01_ArithOrders.j0 k a0 a1 true)) else (remontoirlaw01_ArithOrders.j0 k a0 a1 true)))))) = some r := h
  clear h
  replace H := Option.bind_eq_some_iff.mp H
  obtain ⟨⟨t192, t193⟩, A30, H⟩ := H
  replace H : ((arith_Add.f k a1 a0).bind fun bt194 => ((arith_Mul.f k a0 a1).bind fun bt196 => ((arith_Mul.f k a1 a0).bind fun bt198 => (if t192 = bt194.1 then (if t193 = bt194.2 then (if bt196.1 = bt198.1 then (remontoirlaw01_ArithOrders.j0 k a0 a1 (bt196.2 != bt198.2)) else (remontoirlaw01_ArithOrders.j0 k a0 a1 true)) else (remontoirlaw01_ArithOrders.j0 k a0 a1 true)) else (remontoirlaw01_ArithOrders.j0 k a0 a1 true))))) = some r := H
  have A3 := Aside0.mk A30
  clear A30
  replace H := Option.bind_eq_some_iff.mp H
  obtain ⟨⟨t194, t195⟩, A40, H⟩ := H
  replace H : ((arith_Mul.f k a0 a1).bind fun bt196 => ((arith_Mul.f k a1 a0).bind fun bt198 => (if t192 = t194 then (if t193 = t195 then (if bt196.1 = bt198.1 then (remontoirlaw01_ArithOrders.j0 k a0 a1 (bt196.2 != bt198.2)) else (remontoirlaw01_ArithOrders.j0 k a0 a1 true)) else (remontoirlaw01_ArithOrders.j0 k a0 a1 true)) else (remontoirlaw01_ArithOrders.j0 k a0 a1 true)))) = some r := H
  have A4 := Aside0.mk A40
  clear A40
  replace H := Option.bind_eq_some_iff.mp H
  obtain ⟨⟨t196, t197⟩, A50, H⟩ := H
  replace H : ((arith_Mul.f k a1 a0).bind fun bt198 => (if t192 = t194 then (if t193 = t195 then (if t196 = bt198.1 then (remontoirlaw01_ArithOrders.j0 k a0 a1 (t197 != bt198.2)) else (remontoirlaw01_ArithOrders.j0 k a0 a1 true)) else (remontoirlaw01_ArithOrders.j0 k a0 a1 true)) else (remontoirlaw01_ArithOrders.j0 k a0 a1 true))) = some r := H
  have A5 := Aside0.mk A50
  clear A50
  replace H := Option.bind_eq_some_iff.mp H
  obtain ⟨⟨t198, t199⟩, A60, H⟩ := H
  replace H : (if t192 = t194 then (if t193 = t195 then (if t196 = t198 then (remontoirlaw01_ArithOrders.j0 k a0 a1 (t197 != t199)) else (remontoirlaw01_ArithOrders.j0 k a0 a1 true)) else (remontoirlaw01_ArithOrders.j0 k a0 a1 true)) else (remontoirlaw01_ArithOrders.j0 k a0 a1 true)) = some r := H
  have A6 := Aside0.mk A60
  clear A60
  have HC7 := Aside0.mk H
  clear H
  go_enter Try.func13, Try.ntmps13
  go_upto_region 5 with (first | ((with_reducible refine gate_callee (f := 34) rfl ?_); refine goesL_ (some 20) rfl rfl Try.func34 (by kernel_rfl) rfl #[.int .i64 a0, .int .i64 a1] rfl (by (try simp only [List.map_toArray, List.map_cons, List.map_nil]); first | done | rfl | (simp only [List.length_drop, List.length_take]; rfl)) ?_; (with_reducible refine (arith_Add.calls k a0 a1 t192 t193 _ A3.out).mono ?_); rintro e w8 ⟨rfl, hb⟩; refine ⟨_, rfl, ?_⟩; have n0_ := Aside0.mk (below_step (by repeat (first | (with_reducible first | exact HB.out | apply below_alloc | apply pw_below_drewN | apply below_drew1) | exact HB.out)) hb); clear HB; have HB := n0_; clear n0_; (try clear hb); (try clear hb2); (try clear hk); (try clear hi)) | ((with_reducible refine gate_callee (f := 34) rfl ?_); refine goesL_ (some 26) rfl rfl Try.func34 (by kernel_rfl) rfl #[.int .i64 a1, .int .i64 a0] rfl (by (try simp only [List.map_toArray, List.map_cons, List.map_nil]); first | done | rfl | (simp only [List.length_drop, List.length_take]; rfl)) ?_; (with_reducible refine (arith_Add.calls k a1 a0 t194 t195 _ A4.out).mono ?_); rintro e w9 ⟨rfl, hb⟩; refine ⟨_, rfl, ?_⟩; have n0_ := Aside0.mk (below_step (by repeat (first | (with_reducible first | exact HB.out | apply below_alloc | apply pw_below_drewN | apply below_drew1) | exact HB.out)) hb); clear HB; have HB := n0_; clear n0_; (try clear hb); (try clear hb2); (try clear hk); (try clear hi)) | ((with_reducible refine gate_callee (f := 35) rfl ?_); refine goesL_ (some 32) rfl rfl Try.func35 (by kernel_rfl) rfl #[.int .i64 a0, .int .i64 a1] rfl (by (try simp only [List.map_toArray, List.map_cons, List.map_nil]); first | done | rfl | (simp only [List.length_drop, List.length_take]; rfl)) ?_; (with_reducible refine (arith_Mul.calls k a0 a1 t196 t197 _ A5.out).mono ?_); rintro e w10 ⟨rfl, hb⟩; refine ⟨_, rfl, ?_⟩; have n0_ := Aside0.mk (below_step (by repeat (first | (with_reducible first | exact HB.out | apply below_alloc | apply pw_below_drewN | apply below_drew1) | exact HB.out)) hb); clear HB; have HB := n0_; clear n0_; (try clear hb); (try clear hb2); (try clear hk); (try clear hi)) | ((with_reducible refine gate_callee (f := 35) rfl ?_); refine goesL_ (some 38) rfl rfl Try.func35 (by kernel_rfl) rfl #[.int .i64 a1, .int .i64 a0] rfl (by (try simp only [List.map_toArray, List.map_cons, List.map_nil]); first | done | rfl | (simp only [List.length_drop, List.length_take]; rfl)) ?_; (with_reducible refine (arith_Mul.calls k a1 a0 t198 t199 _ A6.out).mono ?_); rintro e w11 ⟨rfl, hb⟩; refine ⟨_, rfl, ?_⟩; have n0_ := Aside0.mk (below_step (by repeat (first | (with_reducible first | exact HB.out | apply below_alloc | apply pw_below_drewN | apply below_drew1) | exact HB.out)) hb); clear HB; have HB := n0_; clear n0_; (try clear hb); (try clear hb2); (try clear hk); (try clear hi)))
  (try simp only [Act.put, List.setIfInBounds_toArray, List.set_cons_zero, List.set_cons_succ])
  go_cut [58] (fun v58 wc => ∃ (kq : Nat) (x58_6 : Bool), v58 = .bool x58_6 ∧ Aside0 (remontoirlaw01_ArithOrders.j0 kq a0 a1 x58_6 = some r) ∧ Aside0 (kq ≤ k) ∧ Aside0 (Below w.heap.size w wc))
  case first =>
    have H := HC7.out
    clear HC7
    by_cases c12 : t192 = t194
    · rw [if_pos c12] at H
      have c12b0 : (t192 == t194) = true := beq_iff_eq.mpr c12
      have c12b1 : (t192 != t194) = false := bne_eq_false_iff_eq.mpr c12
      clear c12
      (first | rw [c12b0] | (simp only [i64_w, i32_w]; rw [c12b0]) | skip)
      by_cases c13 : t193 = t195
      · rw [if_pos c13] at H
        have c13b0 : (t193 == t195) = true := beq_iff_eq.mpr c13
        have c13b1 : (t193 != t195) = false := bne_eq_false_iff_eq.mpr c13
        clear c13
        by_cases c14 : t196 = t198
        · rw [if_pos c14] at H
          have c14b0 : (t196 == t198) = true := beq_iff_eq.mpr c14
          have c14b1 : (t196 != t198) = false := bne_eq_false_iff_eq.mpr c14
          clear c14
          have H' := Aside0.mk H
          clear H
          go_wp2
          go_meet
          case rel => exact ⟨_, ((t197 != t199)), (by first | rfl | (simp; done) | (simp [*]; done)), H', ⟨by first | omega | exact Nat.le_refl _⟩, ⟨by repeat (first | (with_reducible first | exact HB.out | apply below_alloc | apply pw_below_drewN | apply below_drew1) | exact HB.out)⟩⟩
        · rw [if_neg c14] at H
          have c14b0 : (t196 == t198) = false := beq_eq_false_iff_ne.mpr c14
          have c14b1 : (t196 != t198) = true := bne_iff_ne.mpr c14
          have H' := Aside0.mk H
          clear H
          go_wp2
          go_meet
          case rel => exact ⟨_, (true), (by first | rfl | (simp; done) | (simp [*]; done)), H', ⟨by first | omega | exact Nat.le_refl _⟩, ⟨by repeat (first | (with_reducible first | exact HB.out | apply below_alloc | apply pw_below_drewN | apply below_drew1) | exact HB.out)⟩⟩
      · rw [if_neg c13] at H
        have c13b0 : (t193 == t195) = false := beq_eq_false_iff_ne.mpr c13
        have c13b1 : (t193 != t195) = true := bne_iff_ne.mpr c13
        have H' := Aside0.mk H
        clear H
        go_wp2
        go_meet
        case rel => exact ⟨_, (true), (by first | rfl | (simp; done) | (simp [*]; done)), H', ⟨by first | omega | exact Nat.le_refl _⟩, ⟨by repeat (first | (with_reducible first | exact HB.out | apply below_alloc | apply pw_below_drewN | apply below_drew1) | exact HB.out)⟩⟩
    · rw [if_neg c12] at H
      have c12b0 : (t192 == t194) = false := beq_eq_false_iff_ne.mpr c12
      have c12b1 : (t192 != t194) = true := bne_iff_ne.mpr c12
      (first | rw [c12b0] | (simp only [i64_w, i32_w]; rw [c12b0]) | skip)
      have H' := Aside0.mk H
      clear H
      go_wp2
      go_meet
      case rel => exact ⟨_, (true), (by first | rfl | (simp; done) | (simp [*]; done)), H', ⟨by first | omega | exact Nat.le_refl _⟩, ⟨by repeat (first | (with_reducible first | exact HB.out | apply below_alloc | apply pw_below_drewN | apply below_drew1) | exact HB.out)⟩⟩
  case rest =>
    clear HC7
    try clear c1
    try clear p2
    try clear c3
    try clear c12
    try clear c12b0
    try clear c12b1
    try clear c13
    try clear c13b0
    try clear c13b1
    try clear c14
    try clear c14b0
    try clear c14b1
    obtain ⟨kq, x58_6, rfl, HA, HJ6, HB⟩ := hcut
    cases kq with
    | zero => exact absurd HA.out (by simp [remontoirlaw01_ArithOrders.j0])
    | succ kj6 =>
      have H := HA.out
      clear HA
      simp only [remontoirlaw01_ArithOrders.j0] at H
      by_cases c15 : x58_6 = true
      · subst c15
        have H1 : (some false) = some r := by rw [if_pos rfl] at H; exact H
        clear H
        have H := H1
        clear H1
        obtain rfl := Option.some.inj H
        go_wp2
        go_ret
        exact ⟨by first | rfl | (simp [errW_none, errW_some] <;> rfl) | (simp [*, errW_none, errW_some] <;> rfl), by repeat (first | (with_reducible first | exact HB.out | apply below_alloc | apply pw_below_drewN | apply below_drew1) | exact HB.out)⟩
      · replace c15 := Bool.eq_false_iff.mpr c15
        subst c15
        have H1 : ((arith_Floor.f kj6 a0 a1).bind fun bt200 => ((arith_Ceil.f kj6 a0 a1).bind fun bt202 => (if bt200.2 = 0 then (remontoirlaw01_ArithOrders.j1 kj6 a0 a1 bt200.1 bt200.2 bt202.1 bt202.2 (bt202.2 != 0)) else (remontoirlaw01_ArithOrders.j1 kj6 a0 a1 bt200.1 bt200.2 bt202.1 bt202.2 true)))) = some r := by rw [if_neg (show ¬ (false = true) by decide)] at H; exact H
        clear H
        have H := H1
        clear H1
        replace H := Option.bind_eq_some_iff.mp H
        obtain ⟨⟨t200, t201⟩, A160, H⟩ := H
        replace H : ((arith_Ceil.f kj6 a0 a1).bind fun bt202 => (if t201 = 0 then (remontoirlaw01_ArithOrders.j1 kj6 a0 a1 t200 t201 bt202.1 bt202.2 (bt202.2 != 0)) else (remontoirlaw01_ArithOrders.j1 kj6 a0 a1 t200 t201 bt202.1 bt202.2 true))) = some r := H
        have A16 := Aside0.mk A160
        clear A160
        replace H := Option.bind_eq_some_iff.mp H
        obtain ⟨⟨t202, t203⟩, A170, H⟩ := H
        replace H : (if t201 = 0 then (remontoirlaw01_ArithOrders.j1 kj6 a0 a1 t200 t201 t202 t203 (t203 != 0)) else (remontoirlaw01_ArithOrders.j1 kj6 a0 a1 t200 t201 t202 t203 true)) = some r := H
        have A17 := Aside0.mk A170
        clear A170
        have HC18 := Aside0.mk H
        clear H
        go_upto_region 9 with (first | ((with_reducible refine gate_callee (f := 24) rfl ?_); refine goesL_ (some 62) rfl rfl Try.func24 (by kernel_rfl) rfl #[.int .i64 a0, .int .i64 a1] rfl (by (try simp only [List.map_toArray, List.map_cons, List.map_nil]); first | done | rfl | (simp only [List.length_drop, List.length_take]; rfl)) ?_; (with_reducible refine (arith_Floor.calls kj6 a0 a1 t200 t201 _ A16.out).mono ?_); rintro e w19 ⟨rfl, hb⟩; refine ⟨_, rfl, ?_⟩; have n0_ := Aside0.mk (below_step (by repeat (first | (with_reducible first | exact HB.out | apply below_alloc | apply pw_below_drewN | apply below_drew1) | exact HB.out)) hb); clear HB; have HB := n0_; clear n0_; (try clear hb); (try clear hb2); (try clear hk); (try clear hi)) | ((with_reducible refine gate_callee (f := 25) rfl ?_); refine goesL_ (some 68) rfl rfl Try.func25 (by kernel_rfl) rfl #[.int .i64 a0, .int .i64 a1] rfl (by (try simp only [List.map_toArray, List.map_cons, List.map_nil]); first | done | rfl | (simp only [List.length_drop, List.length_take]; rfl)) ?_; (with_reducible refine (arith_Ceil.calls kj6 a0 a1 t202 t203 _ A17.out).mono ?_); rintro e w20 ⟨rfl, hb⟩; refine ⟨_, rfl, ?_⟩; have n0_ := Aside0.mk (below_step (by repeat (first | (with_reducible first | exact HB.out | apply below_alloc | apply pw_below_drewN | apply below_drew1) | exact HB.out)) hb); clear HB; have HB := n0_; clear n0_; (try clear hb); (try clear hb2); (try clear hk); (try clear hi)))
        (try simp only [Act.put, List.setIfInBounds_toArray, List.set_cons_zero, List.set_cons_succ])
        go_cut [76] (fun v76 wc => ∃ (kq : Nat) (x76_17 : Bool), v76 = .bool x76_17 ∧ Aside0 (remontoirlaw01_ArithOrders.j1 kq a0 a1 t200 t201 t202 t203 x76_17 = some r) ∧ Aside0 (kq ≤ kj6) ∧ Aside0 (Below w.heap.size w wc))
        case first =>
          have H := HC18.out
          clear HC18
          by_cases c21 : t201 = 0
          · rw [if_pos c21] at H
            have c21b0 : (t201 == 0) = true := beq_iff_eq.mpr c21
            have c21b1 : (t201 != 0) = false := bne_eq_false_iff_eq.mpr c21
            clear c21
            (first | rw [c21b0] | (simp only [i64_w, i32_w]; rw [c21b0]) | skip)
            have H' := Aside0.mk H
            clear H
            go_wp2
            go_meet
            case rel => exact ⟨_, ((t203 != 0)), (by first | rfl | (simp; done) | (simp [*]; done)), H', ⟨by have := HJ6.out; first | omega | exact Nat.le_refl _⟩, ⟨by repeat (first | (with_reducible first | exact HB.out | apply below_alloc | apply pw_below_drewN | apply below_drew1) | exact HB.out)⟩⟩
          · rw [if_neg c21] at H
            have c21b0 : (t201 == 0) = false := beq_eq_false_iff_ne.mpr c21
            have c21b1 : (t201 != 0) = true := bne_iff_ne.mpr c21
            (first | rw [c21b0] | (simp only [i64_w, i32_w]; rw [c21b0]) | skip)
            have H' := Aside0.mk H
            clear H
            go_wp2
            go_meet
            case rel => exact ⟨_, (true), (by first | rfl | (simp; done) | (simp [*]; done)), H', ⟨by have := HJ6.out; first | omega | exact Nat.le_refl _⟩, ⟨by repeat (first | (with_reducible first | exact HB.out | apply below_alloc | apply pw_below_drewN | apply below_drew1) | exact HB.out)⟩⟩
        case rest =>
          clear HC18
          try clear c1
          try clear c2
          try clear p2
          try clear c3
          try clear c12
          try clear c12b0
          try clear c12b1
          try clear c13
          try clear c13b0
          try clear c13b1
          try clear c14
          try clear c14b0
          try clear c14b1
          try clear c15
          try clear c21
          try clear c21b0
          try clear c21b1
          try clear p2
          obtain ⟨kq, x76_17, rfl, HA, HJ17, HB⟩ := hcut
          cases kq with
          | zero => exact absurd HA.out (by simp [remontoirlaw01_ArithOrders.j1])
          | succ kj17 =>
            have H := HA.out
            clear HA
            simp only [remontoirlaw01_ArithOrders.j1] at H
            by_cases c22 : x76_17 = true
            · subst c22
              have H1 : (if t201 = t203 then ((remontoirlaw01_knows.f kj17).bind fun t204 => (some t204)) else (some false)) = some r := by rw [if_pos rfl] at H; exact H
              clear H
              have H := H1
              clear H1
              by_cases c23 : t201 = t203
              · rw [if_pos c23] at H
                have c23b0 : (t201 == t203) = true := beq_iff_eq.mpr c23
                have c23b1 : (t201 != t203) = false := bne_eq_false_iff_eq.mpr c23
                clear c23
                replace H := Option.bind_eq_some_iff.mp H
                obtain ⟨t204, A240, H⟩ := H
                replace H : (some t204) = some r := H
                have A24 := Aside0.mk A240
                clear A240
                obtain rfl := Option.some.inj H
                go_wp2_with (first | (go_at_call 27; (with_reducible refine (remontoirlaw01_knows.calls kj17  t204 _ A24.out).mono ?_); rintro e w25 ⟨rfl, hb⟩; have n0_ := Aside0.mk (below_step (by repeat (first | (with_reducible first | exact HB.out | apply below_alloc | apply pw_below_drewN | apply below_drew1) | exact HB.out)) hb); clear HB; have HB := n0_; clear n0_; (try clear hb); (try clear hb2); (try clear hk); (try clear hi)))
                go_ret
                exact ⟨by first | rfl | (simp [errW_none, errW_some] <;> rfl) | (simp [*, errW_none, errW_some] <;> rfl), by repeat (first | (with_reducible first | exact HB.out | apply below_alloc | apply pw_below_drewN | apply below_drew1) | exact HB.out)⟩
              · rw [if_neg c23] at H
                have c23b0 : (t201 == t203) = false := beq_eq_false_iff_ne.mpr c23
                have c23b1 : (t201 != t203) = true := bne_iff_ne.mpr c23
                obtain rfl := Option.some.inj H
                go_wp2
                go_ret
                exact ⟨by first | rfl | (simp [errW_none, errW_some] <;> rfl) | (simp [*, errW_none, errW_some] <;> rfl), by repeat (first | (with_reducible first | exact HB.out | apply below_alloc | apply pw_below_drewN | apply below_drew1) | exact HB.out)⟩
            · replace c22 := Bool.eq_false_iff.mpr c22
              subst c22
              have H1 : (if (wrap64 (t200 * a1)) ≤ a0 then (if (wrap64 (a0 - (wrap64 (t200 * a1)))) < a1 then (if (wrap64 (t202 * a1)) ≥ a0 then (if (wrap64 ((wrap64 (t202 * a1)) - a0)) < a1 then ((remontoirlaw01_knows.f kj17).bind fun t205 => (some t205)) else (some false)) else (some false)) else (some false)) else (some false)) = some r := by rw [if_neg (show ¬ (false = true) by decide)] at H; exact H
              clear H
              have H := H1
              clear H1
              by_cases c26 : (wrap64 (t200 * a1)) ≤ a0
              · rw [if_pos c26] at H
                have c26b0 : decide ((wrap64 (t200 * a1)) ≤ a0) = true := decide_eq_true c26
                clear c26
                by_cases c27 : (wrap64 (a0 - (wrap64 (t200 * a1)))) < a1
                · rw [if_pos c27] at H
                  have c27b0 : decide ((wrap64 (a0 - (wrap64 (t200 * a1)))) < a1) = true := decide_eq_true c27
                  clear c27
                  by_cases c28 : (wrap64 (t202 * a1)) ≥ a0
                  · rw [if_pos c28] at H
                    have c28b0 : decide (a0 ≤ (wrap64 (t202 * a1))) = true := decide_eq_true c28
                    clear c28
                    by_cases c29 : (wrap64 ((wrap64 (t202 * a1)) - a0)) < a1
                    · rw [if_pos c29] at H
                      have c29b0 : decide ((wrap64 ((wrap64 (t202 * a1)) - a0)) < a1) = true := decide_eq_true c29
                      clear c29
                      replace H := Option.bind_eq_some_iff.mp H
                      obtain ⟨t205, A300, H⟩ := H
                      replace H : (some t205) = some r := H
                      have A30 := Aside0.mk A300
                      clear A300
                      obtain rfl := Option.some.inj H
                      go_wp2_with (first | (go_at_call 27; (with_reducible refine (remontoirlaw01_knows.calls kj17  t205 _ A30.out).mono ?_); rintro e w31 ⟨rfl, hb⟩; have n0_ := Aside0.mk (below_step (by repeat (first | (with_reducible first | exact HB.out | apply below_alloc | apply pw_below_drewN | apply below_drew1) | exact HB.out)) hb); clear HB; have HB := n0_; clear n0_; (try clear hb); (try clear hb2); (try clear hk); (try clear hi)))
                      go_ret
                      exact ⟨by first | rfl | (simp [errW_none, errW_some] <;> rfl) | (simp [*, errW_none, errW_some] <;> rfl), by repeat (first | (with_reducible first | exact HB.out | apply below_alloc | apply pw_below_drewN | apply below_drew1) | exact HB.out)⟩
                    · rw [if_neg c29] at H
                      have c29b0 : decide ((wrap64 ((wrap64 (t202 * a1)) - a0)) < a1) = false := decide_eq_false c29
                      clear c29
                      obtain rfl := Option.some.inj H
                      go_wp2
                      go_ret
                      exact ⟨by first | rfl | (simp [errW_none, errW_some] <;> rfl) | (simp [*, errW_none, errW_some] <;> rfl), by repeat (first | (with_reducible first | exact HB.out | apply below_alloc | apply pw_below_drewN | apply below_drew1) | exact HB.out)⟩
                  · rw [if_neg c28] at H
                    have c28b0 : decide (a0 ≤ (wrap64 (t202 * a1))) = false := decide_eq_false c28
                    clear c28
                    obtain rfl := Option.some.inj H
                    go_wp2
                    go_ret
                    exact ⟨by first | rfl | (simp [errW_none, errW_some] <;> rfl) | (simp [*, errW_none, errW_some] <;> rfl), by repeat (first | (with_reducible first | exact HB.out | apply below_alloc | apply pw_below_drewN | apply below_drew1) | exact HB.out)⟩
                · rw [if_neg c27] at H
                  have c27b0 : decide ((wrap64 (a0 - (wrap64 (t200 * a1)))) < a1) = false := decide_eq_false c27
                  clear c27
                  obtain rfl := Option.some.inj H
                  go_wp2
                  go_ret
                  exact ⟨by first | rfl | (simp [errW_none, errW_some] <;> rfl) | (simp [*, errW_none, errW_some] <;> rfl), by repeat (first | (with_reducible first | exact HB.out | apply below_alloc | apply pw_below_drewN | apply below_drew1) | exact HB.out)⟩
              · rw [if_neg c26] at H
                have c26b0 : decide ((wrap64 (t200 * a1)) ≤ a0) = false := decide_eq_false c26
                clear c26
                obtain rfl := Option.some.inj H
                go_wp2
                go_ret
                exact ⟨by first | rfl | (simp [errW_none, errW_some] <;> rfl) | (simp [*, errW_none, errW_some] <;> rfl), by repeat (first | (with_reducible first | exact HB.out | apply below_alloc | apply pw_below_drewN | apply below_drew1) | exact HB.out)⟩

/-- THE ONE PURE STATEMENT of remontoirlaw01_ArithOrders: yours. -/
def remontoirlaw01_ArithOrders.Pure : Prop := ∀ (a0 : Int) (a1 : Int), (Lit.int .i64 a0).wf = true → (Lit.int .i64 a1).wf = true → ∃ k, remontoirlaw01_ArithOrders.f k a0 a1 = some true
theorem remontoirlaw01_ArithOrders.walk (P : remontoirlaw01_ArithOrders.Pure) (a0 : Int) (a1 : Int) (w : World) (w0 : (Lit.int .i64 a0).wf = true) (w1 : (Lit.int .i64 a1).wf = true) :
    Calls Try.prog 13 #[.int .i64 a0, .int .i64 a1] w fun e w' => e = .returned (.bool true) ∧ Below w.heap.size w w' := by
  obtain ⟨k, h⟩ := P a0 a1 w0 w1
  refine (remontoirlaw01_ArithOrders.calls k a0 a1 true w h).mono ?_
  rintro e w' ⟨rfl, hd⟩
  exact ⟨rfl, hd⟩

end Go.Proofs.Ytbjoidhgcdcbgaa.FArith
