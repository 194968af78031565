-- Written by the session (wip/tools) for this claim: functions of the program as Lean functions, and their contracts.
import Derived.Test.YtdfokaldjfpkhaaFHeapx0
import Derived.Test.YtdfokaldjfpkhaaFHeapx1
import Derived.Test.YtdfokaldjfpkhaaFHeapx4
import Derived.Test.YtdfokaldjfpkhaaFHeapx6
import Derived.Test.YtdfokaldjfpkhaaFHeapx8
import Derived.Test.YtdfokaldjfpkhaaFHeapx10
import Derived.Test.YtdfokaldjfpkhaaFHeapx14
namespace Go.Proofs.Ytdfokaldjfpkhaa.FHeap
open Go.RowKit Go.Proofs.YtdfokaldjfpkhaaW.PrintWords Go.Proofs.YtdfokaldjfpkhaaW.PrintLast Go.Proofs.YtdfokaldjfpkhaaW.PrintMore
attribute [local go_sem] max2_int min2_int max_two min_two max_three min_three max_four min_four   -- for this text's walks alone
set_option linter.unusedVariables false
set_option linter.unusedSimpArgs false

attribute [local go_sem high] eqA34
/-! ### remontoirlaw02_HeapAgain: function 12 -/
def remontoirlaw02_HeapAgain.j0 : Nat → List (S34) → Int → Bool → Option (Bool)
  | 0, _, _, _ => none
  | k + 1, x0, x1, x17 => if x17 = true then (if 0 ≤ (x0.length : Int) then ((heap_Sort.f k (x0.take 0)).bind fun t397 => (if (t397.length : Int) = 0 then ((remontoirlaw02_knows.f k).bind fun t400 => (some t400)) else (some false))) else (none)) else (if (x0.length : Int) = 0 then (none) else ((heap_Sort.f k x0).bind fun t401 => ((some (([] : List (S34)) : List (S34))).bind fun y404 => (if 0 ≤ (Int.tmod (wrap64 (x1)) (x0.length : Int)) then (if (Int.tmod (wrap64 (x1)) (x0.length : Int)) ≤ (x0.length : Int) then ((some (x0.drop ((Int.tmod (wrap64 (x1)) (x0.length : Int)) : Int).toNat : List (S34))).bind fun y407 => (if y404.length + y407.length < 8796093022208 then ((some (y404 ++ y407 : List (S34))).bind fun y411 => ((some (x0.take ((Int.tmod (wrap64 (x1)) (x0.length : Int)) : Int).toNat : List (S34))).bind fun y414 => (if y411.length + y414.length < 8796093022208 then ((heap_Sort.f k (y411 ++ y414)).bind fun t421 => ((heap_Min.f k x0).bind fun bt424 => (if (t401.length : Int) = (x0.length : Int) then (if 0 < (t401.length : Int) then (if (((rd_T34 t401 0).f0) == bt424.1 && (((rd_T34 t401 0).f1) == bt424.2.1)) = true then (if bt424.2.2 = 0 then ((heap_Sort.f k t401).bind fun t429 => ((remontoirlaw02_as.f k t429).bind fun t432 => ((remontoirlaw02_as.f k t401).bind fun t435 => ((remontoirref02_Same.f k t432 t435).bind fun t438 => (if t438 = true then ((remontoirlaw02_as.f k t401).bind fun t439 => ((remontoirlaw02_as.f k t421).bind fun t442 => ((remontoirref02_Same.f k t439 t442).bind fun t445 => (if t445 = true then ((heap_Right.f k t401).bind fun t446 => (if t446 = true then ((remontoirlaw02_knows.f k).bind fun t447 => (some t447)) else (some false))) else (some false))))) else (some false)))))) else (some false)) else (some false)) else (none)) else (some false)))) else (none)))) else (none))) else (none)) else (none)))))
def remontoirlaw02_HeapAgain.f (k : Nat) (l0 : List (S34)) (a1 : Int) : Option (Bool) := if (l0.length : Int) > 100 then (remontoirlaw02_HeapAgain.j0 k l0 a1 true) else (remontoirlaw02_HeapAgain.j0 k l0 a1 ((l0.length : Int) == 0))
theorem remontoirlaw02_HeapAgain.mono_l : ∀ k, (∀ y0 y1 y2, LeO (remontoirlaw02_HeapAgain.j0 k y0 y1 y2) (remontoirlaw02_HeapAgain.j0 (k + 1) y0 y1 y2))
  | 0 => fun _ _ _ r h => by simp [remontoirlaw02_HeapAgain.j0] at h
  | k + 1 => by
    have ih0 := remontoirlaw02_HeapAgain.mono_l k
    · intro y0 y1 y2
      unfold remontoirlaw02_HeapAgain.j0
      repeat' first
      | (with_reducible exact ih0 _ _ _)
      | (with_reducible exact heap_Min.mono _ _)
      | (with_reducible exact heap_Right.mono _ _)
      | (with_reducible exact heap_Sort.mono _ _)
      | (with_reducible exact remontoirlaw02_as.mono _ _)
      | (with_reducible exact remontoirlaw02_knows.mono _)
      | (with_reducible exact remontoirref02_Same.mono _ _ _)
      | (with_reducible exact LeO.refl _)
      | (with_reducible exact LeO.none _)
      | (with_reducible refine LeO.ite ?_ ?_)
      | (with_reducible refine LeO.bind ?_ (fun _ => ?_))
      | exact ih0 _ _ _
      | exact heap_Min.mono _ _
      | exact heap_Right.mono _ _
      | exact heap_Sort.mono _ _
      | exact remontoirlaw02_as.mono _ _
      | exact remontoirlaw02_knows.mono _
      | exact remontoirref02_Same.mono _ _ _
      | exact LeO.none _
      | refine LeO.ite ?_ ?_
      | refine LeO.bind ?_ (fun _ => ?_)
theorem remontoirlaw02_HeapAgain.mono : ∀ a0 a1 k, LeO (remontoirlaw02_HeapAgain.f k a0 a1) (remontoirlaw02_HeapAgain.f (k + 1) a0 a1) := by
  intro a0 a1 k
  have ih0 := remontoirlaw02_HeapAgain.mono_l k
  unfold remontoirlaw02_HeapAgain.f
  repeat' first
      | (with_reducible exact ih0 _ _ _)
      | (with_reducible exact heap_Min.mono _ _)
      | (with_reducible exact heap_Right.mono _ _)
      | (with_reducible exact heap_Sort.mono _ _)
      | (with_reducible exact remontoirlaw02_as.mono _ _)
      | (with_reducible exact remontoirlaw02_knows.mono _)
      | (with_reducible exact remontoirref02_Same.mono _ _ _)
      | (with_reducible exact LeO.refl _)
      | (with_reducible exact LeO.none _)
      | (with_reducible refine LeO.ite ?_ ?_)
      | (with_reducible refine LeO.bind ?_ (fun _ => ?_))
      | exact ih0 _ _ _
      | exact heap_Min.mono _ _
      | exact heap_Right.mono _ _
      | exact heap_Sort.mono _ _
      | exact remontoirlaw02_as.mono _ _
      | exact remontoirlaw02_knows.mono _
      | exact remontoirref02_Same.mono _ _ _
      | exact LeO.none _
      | refine LeO.ite ?_ ?_
      | refine LeO.bind ?_ (fun _ => ?_)
def remontoirlaw02_HeapAgain.T5 : Bool × List (List Nat × List Nat) := (true, [([], []), ([], []), ([], []), ([1, 2], [1, 2]), ([0, 3], [0, 3]), ([], []), ([], []), ([5, 6], [5, 6]), ([4, 7, 4], [4, 7]), ([8, 8], [8]), ([9, 9, 0, 1, 2, 3, 4, 5, 6, 7, 8, 9], [9])])
def remontoirlaw02_HeapAgain.B5 : List Nat := [0, 0, 0, 6, 15, 0, 0, 96, 255, 511, 1023]
theorem remontoirlaw02_HeapAgain.tab5 : rtab .any (opsOf Try.f12 5) = remontoirlaw02_HeapAgain.T5 := by kernel_rfl
theorem remontoirlaw02_HeapAgain.bits5 : waitsOk remontoirlaw02_HeapAgain.T5.2 remontoirlaw02_HeapAgain.B5 = true := by kernel_rfl
def remontoirlaw02_HeapAgain.T7 : Bool × List (List Nat × List Nat) := (true, [([], []), ([0], [0]), ([], []), ([2], [2]), ([1, 3], [1, 3]), ([4], [4]), ([5], [5]), ([6, 5], [5, 6]), ([7, 5], [5, 7]), ([5], [5]), ([8, 9, 5], [5, 8, 9]), ([5, 10], [5, 10]), ([11, 5], [11]), ([12], [12]), ([13, 12], [12, 13]), ([12, 14], [12, 14]), ([15, 12], [15]), ([16], [16]), ([17, 16, 16], [16, 17]), ([18, 18, 16], [16, 18]), ([16], [16]), ([20, 19, 16], [16, 20]), ([19, 21, 21, 16], [16, 19, 21]), ([16, 22], [16, 22]), ([23, 22], [23]), ([24], [24]), ([25, 24, 24], [24, 25]), ([24], [24]), ([27, 26, 24], [24, 27]), ([26, 28, 28, 24], [24, 26, 28]), ([24, 29], [24, 29]), ([30, 29], [30]), ([31], [31]), ([32, 31, 31], [31, 32]), ([31, 33], [31, 33]), ([34, 33], [34]), ([35, 35], [35]), ([35, 36], [35, 36]), ([37, 36, 0, 1, 2, 3, 4, 5, 6, 7, 8, 9, 10, 11, 12, 13, 14, 15, 16, 17, 18, 19, 20, 21, 22, 23, 24, 25, 26, 27, 28, 29, 30, 31, 32, 33, 34, 35, 36, 37], [37])])
def remontoirlaw02_HeapAgain.B7 : List Nat := [0, 1, 0, 4, 15, 31, 63, 127, 255, 63, 1023, 2047, 4095, 8191, 16383, 32767, 65535, 131071, 262143, 524287, 131071, 2097151, 4194303, 8388607, 16777215, 33554431, 67108863, 33554431, 268435455, 536870911, 1073741823, 2147483647, 4294967295, 8589934591, 17179869183, 34359738367, 68719476735, 137438953471, 274877906943]
theorem remontoirlaw02_HeapAgain.tab7 : rtab .any (opsOf Try.f12 7) = remontoirlaw02_HeapAgain.T7 := by kernel_rfl
theorem remontoirlaw02_HeapAgain.bits7 : waitsOk remontoirlaw02_HeapAgain.T7.2 remontoirlaw02_HeapAgain.B7 = true := by kernel_rfl
set_option maxHeartbeats 8000000 in
set_option maxRecDepth 100000 in
theorem remontoirlaw02_HeapAgain.calls (k : Nat) (A0 : Option Addr) (c0 : Nat) (l0 : List (S34)) (a1 : Int) (w : World) (hr0 : Kd.C k34 w A0 l0.length l0) (hc0 : l0.length ≤ c0) (h : remontoirlaw02_HeapAgain.f k l0 a1 = some true) :
    Calls Try.prog 12 #[.slice A0 l0.length c0, .int .u8 a1] w fun e w' => e = .returned (.bool true) ∧ Below w.heap.size w w' := by
  have hu34 := Try.underlying34
  have HR0 := Aside0.mk hr0
  have HC0 := Aside0.mk hc0
  clear hr0 hc0
  have HB := Aside0.mk (Below.refl w.heap.size w)
  have H : (if (l0.length : Int) > 100 then (remontoirlaw02_HeapAgain.j0 k l0 a1 true) else (remontoirlaw02_HeapAgain.j0 k l0 a1 ((l0.length : Int) == 0))) = some true := h
  clear h
  have HC3 := Aside0.mk H
  clear H
  go_enter Try.func12, Try.ntmps12
  go_upto_region 1 with (fail)
  go_cut [17] (fun v17 wc => ∃ (kq : Nat) (x17_2 : Bool), v17 = .bool x17_2 ∧ Aside0 (remontoirlaw02_HeapAgain.j0 kq l0 a1 x17_2 = some true) ∧ Aside0 (kq ≤ k) ∧ Aside0 (Below w.heap.size w wc))
  case first =>
    have H := HC3.out
    clear HC3
    by_cases c4 : (l0.length : Int) > 100
    · rw [if_pos c4] at H
      have c4b0 : decide (100 < (l0.length : Int)) = true := decide_eq_true c4
      have c4b1 : decide (100 < l0.length) = true := decide_eq_true (by omega)
      clear c4
      (first | rw [c4b0] | (simp only [i64_w, i32_w]; rw [c4b0]) | rw [c4b1] | (simp only [i64_w, i32_w]; rw [c4b1]) | skip)
      have H' := Aside0.mk H
      clear H
      go_wp2
      go_meet
      case rel => exact ⟨_, (true), (by first | rfl | (simp; done) | (simp [*]; done)), H', ⟨by first | omega | exact Nat.le_refl _⟩, ⟨by repeat (first | (with_reducible first | exact HB.out | apply below_alloc | apply pw_below_drewN | apply below_drew1) | exact HB.out)⟩⟩
    · rw [if_neg c4] at H
      have c4b0 : decide (100 < (l0.length : Int)) = false := decide_eq_false c4
      have c4b1 : decide (100 < l0.length) = false := decide_eq_false (by omega)
      clear c4
      (first | rw [c4b0] | (simp only [i64_w, i32_w]; rw [c4b0]) | rw [c4b1] | (simp only [i64_w, i32_w]; rw [c4b1]) | skip)
      have H' := Aside0.mk H
      clear H
      go_wp2
      go_meet
      case rel => exact ⟨_, (((l0.length : Int) == 0)), (by first | rfl | (simp; done) | (simp [*]; done)), H', ⟨by first | omega | exact Nat.le_refl _⟩, ⟨by repeat (first | (with_reducible first | exact HB.out | apply below_alloc | apply pw_below_drewN | apply below_drew1) | exact HB.out)⟩⟩
  case rest =>
    clear HC3
    try clear c1
    try clear p2
    try clear c4
    try clear c4b0
    try clear c4b1
    obtain ⟨kq, x17_2, rfl, HA, HJ2, HB⟩ := hcut
    cases kq with
    | zero => exact absurd HA.out (by simp [remontoirlaw02_HeapAgain.j0])
    | succ kj2 =>
      have H := HA.out
      clear HA
      simp only [remontoirlaw02_HeapAgain.j0] at H
      by_cases c5 : x17_2 = true
      · subst c5
        have H1 : (if 0 ≤ (l0.length : Int) then ((heap_Sort.f kj2 (l0.take 0)).bind fun t397 => (if (t397.length : Int) = 0 then ((remontoirlaw02_knows.f kj2).bind fun t400 => (some t400)) else (some false))) else (none)) = some true := by rw [if_pos rfl] at H; exact H
        clear H
        have H := H1
        clear H1
        by_cases c6 : 0 ≤ (l0.length : Int)
        · rw [if_pos c6] at H
          have c6b0 := eq_true c6
          have c6b1 : decide (0 ≤ (l0.length : Int)) = true := decide_eq_true c6
          clear c6
          obtain ⟨y393, hy393⟩ : ∃ y_ : List (S34), y_ = (l0.take 0) := ⟨_, rfl⟩
          replace H : ((heap_Sort.f kj2 y393).bind fun t397 => (if (t397.length : Int) = 0 then ((remontoirlaw02_knows.f kj2).bind fun t400 => (some t400)) else (some false))) = some true := by first | (rw [hy393]; with_reducible exact H) | (have H2_ := (Option.bind_some _ _).symm.trans H; rw [hy393]; with_reducible exact H2_) | (have H2_ := (Option.bind_some _ _).symm.trans H; with_reducible exact H2_) | with_reducible exact H | (rw [hy393]; exact H) | exact H
          have Ny393 := Aside0.mk hy393
          clear hy393
          replace H := Option.bind_eq_some_iff.mp H
          obtain ⟨t397, A70, H⟩ := H
          replace H : (if (t397.length : Int) = 0 then ((remontoirlaw02_knows.f kj2).bind fun t400 => (some t400)) else (some false)) = some true := H
          have A7 := Aside0.mk A70
          clear A70
          by_cases c8 : (t397.length : Int) = 0
          · rw [if_pos c8] at H
            have c8b0 : ((t397.length : Int) == 0) = true := beq_iff_eq.mpr c8
            have c8b1 : ((t397.length : Int) != 0) = false := bne_eq_false_iff_eq.mpr c8
            clear c8
            replace H := Option.bind_eq_some_iff.mp H
            obtain ⟨t400, A90, H⟩ := H
            replace H : (some t400) = some true := H
            have A9 := Aside0.mk A90
            clear A90
            have HR_ := Aside0.mk (Option.some.inj H)
            clear H
            have q10 : (0 : Int) ≤ ((l0.length : Int) : Int) := of_decide_eq_true (by first | (with_reducible assumption) | assumption)
            obtain ⟨i010, hi010, _, hsz10, _⟩ := info_parts info34
            have hroom10 : l0.length ≤ c0 := HC0.out
            have hC10 : Kd.C k34 _ A0 l0.length l0 := HR0.out
            have hcut10 := cut_to (P := Try.prog) 32 34 .i64 Try.underlying32 hi010 A0 l0.length c0 0 (by omega) q10 hroom10
            have hr10 := Kd.C_take (m := 0) hC10 (by omega)
            have hy10 : y393.length = (0 : Int).toNat := (by rw [Ny393.out, List.length_take]; omega)
            rw [← Ny393.out] at hr10
            rw [← hy10] at hcut10
            have HR396 := Aside0.mk hr10
            have HC396 := Aside0.mk (show y393.length ≤ c0 from by omega)
            clear hr10 hC10 hroom10 hi010 hsz10
            have KY10 := Aside0.mk hy10
            clear hy10
            replace q10 := eq_true q10
            go_wp2_with (first | ((with_reducible refine gate_callee (f := 36) rfl ?_); refine goesL_ (some 20) rfl rfl Try.func36 (by kernel_rfl) rfl #[.slice A0 y393.length c0] rfl (by (try simp only [List.map_toArray, List.map_cons, List.map_nil]); first | done | rfl | (simp only [List.length_drop, List.length_take]; rfl)) ?_; (with_reducible refine (heap_Sort.calls kj2 _ _ y393 t397 _ ?side1 ?side2 A7.out).mono ?_); (case side1 => repeat (first | exact (Kd.C_below HR396.out HB.out) | (with_reducible refine Kd.C_alloc ?_ _) | (with_reducible refine Kd.C_drewN ?_ _) | (with_reducible refine Kd.C_drew ?_))); (case side2 => exact HC396.out); rintro e w11 ⟨v398, rfl, ho0, hb⟩; refine ⟨_, rfl, ?_⟩; have n0_ := Aside0.mk (Kd.R_lower ho0 (below_size (by repeat (first | (with_reducible first | exact HB.out | apply below_alloc | apply pw_below_drewN | apply below_drew1) | exact HB.out)))); have n1_ := Aside0.mk (below_step (by repeat (first | (with_reducible first | exact HB.out | apply below_alloc | apply pw_below_drewN | apply below_drew1) | exact HB.out)) hb); clear HB; have HO399 := n0_; have HB := n1_; clear n0_ n1_; (try clear hb); (try clear hb2); (try clear hk); (try clear hi); (try clear ho0); obtain ⟨Ao12, co12, eo12⟩ := Kd.R_slice HO399.out; subst eo12) | (go_at_call 24; (with_reducible refine (remontoirlaw02_knows.calls kj2  t400 _ A9.out).mono ?_); rintro e w13 ⟨rfl, hb⟩; have n0_ := Aside0.mk (Kd.R_below (by (with_reducible repeat (first | apply Kd.R_alloc | apply Kd.R_drewN | apply Kd.R_drew)); exact HO399.out) hb); have n1_ := Aside0.mk (below_step (by repeat (first | (with_reducible first | exact HB.out | apply below_alloc | apply pw_below_drewN | apply below_drew1) | exact HB.out)) hb); clear HO399; clear HB; have HO399 := n0_; have HB := n1_; clear n0_ n1_; (try clear hb); (try clear hb2); (try clear hk); (try clear hi)))
            go_ret
            exact ⟨by first | rfl | (rw [HR_.out] <;> rfl) | (simp [errW_none, errW_some] <;> rfl) | (simp [*, errW_none, errW_some] <;> rfl), by repeat (first | (with_reducible first | exact HB.out | apply below_alloc | apply pw_below_drewN | apply below_drew1) | exact HB.out)⟩
          · rw [if_neg c8] at H
            have c8b0 : ((t397.length : Int) == 0) = false := beq_eq_false_iff_ne.mpr c8
            have c8b1 : ((t397.length : Int) != 0) = true := bne_iff_ne.mpr c8
            have c8b2 : ¬ (t397 = []) := fun h_ => c8 (by rw [h_]; rfl)
            exact absurd H (by simp)
        · rw [if_neg c6] at H
          exact absurd H (by simp)
      · replace c5 := Bool.eq_false_iff.mpr c5
        subst c5
        have H1 : (if (l0.length : Int) = 0 then (none) else ((heap_Sort.f kj2 l0).bind fun t401 => ((some (([] : List (S34)) : List (S34))).bind fun y404 => (if 0 ≤ (Int.tmod (wrap64 (a1)) (l0.length : Int)) then (if (Int.tmod (wrap64 (a1)) (l0.length : Int)) ≤ (l0.length : Int) then ((some (l0.drop ((Int.tmod (wrap64 (a1)) (l0.length : Int)) : Int).toNat : List (S34))).bind fun y407 => (if y404.length + y407.length < 8796093022208 then ((some (y404 ++ y407 : List (S34))).bind fun y411 => ((some (l0.take ((Int.tmod (wrap64 (a1)) (l0.length : Int)) : Int).toNat : List (S34))).bind fun y414 => (if y411.length + y414.length < 8796093022208 then ((heap_Sort.f kj2 (y411 ++ y414)).bind fun t421 => ((heap_Min.f kj2 l0).bind fun bt424 => (if (t401.length : Int) = (l0.length : Int) then (if 0 < (t401.length : Int) then (if (((rd_T34 t401 0).f0) == bt424.1 && (((rd_T34 t401 0).f1) == bt424.2.1)) = true then (if bt424.2.2 = 0 then ((heap_Sort.f kj2 t401).bind fun t429 => ((remontoirlaw02_as.f kj2 t429).bind fun t432 => ((remontoirlaw02_as.f kj2 t401).bind fun t435 => ((remontoirref02_Same.f kj2 t432 t435).bind fun t438 => (if t438 = true then ((remontoirlaw02_as.f kj2 t401).bind fun t439 => ((remontoirlaw02_as.f kj2 t421).bind fun t442 => ((remontoirref02_Same.f kj2 t439 t442).bind fun t445 => (if t445 = true then ((heap_Right.f kj2 t401).bind fun t446 => (if t446 = true then ((remontoirlaw02_knows.f kj2).bind fun t447 => (some t447)) else (some false))) else (some false))))) else (some false)))))) else (some false)) else (some false)) else (none)) else (some false)))) else (none)))) else (none))) else (none)) else (none))))) = some true := by rw [if_neg (show ¬ (false = true) by decide)] at H; exact H
        clear H
        have H := H1
        clear H1
        by_cases c14 : (l0.length : Int) = 0
        · rw [if_pos c14] at H
          exact absurd H (by simp)
        · rw [if_neg c14] at H
          have c14b0 : ((l0.length : Int) == 0) = false := beq_eq_false_iff_ne.mpr c14
          have c14b1 : ((l0.length : Int) != 0) = true := bne_iff_ne.mpr c14
          have c14b2 : ¬ (l0 = []) := fun h_ => c14 (by rw [h_]; rfl)
          replace H := Option.bind_eq_some_iff.mp H
          obtain ⟨t401, A150, H⟩ := H
          replace H : ((some (([] : List (S34)) : List (S34))).bind fun y404 => (if 0 ≤ (Int.tmod (wrap64 (a1)) (l0.length : Int)) then (if (Int.tmod (wrap64 (a1)) (l0.length : Int)) ≤ (l0.length : Int) then ((some (l0.drop ((Int.tmod (wrap64 (a1)) (l0.length : Int)) : Int).toNat : List (S34))).bind fun y407 => (if y404.length + y407.length < 8796093022208 then ((some (y404 ++ y407 : List (S34))).bind fun y411 => ((some (l0.take ((Int.tmod (wrap64 (a1)) (l0.length : Int)) : Int).toNat : List (S34))).bind fun y414 => (if y411.length + y414.length < 8796093022208 then ((heap_Sort.f kj2 (y411 ++ y414)).bind fun t421 => ((heap_Min.f kj2 l0).bind fun bt424 => (if (t401.length : Int) = (l0.length : Int) then (if 0 < (t401.length : Int) then (if (((rd_T34 t401 0).f0) == bt424.1 && (((rd_T34 t401 0).f1) == bt424.2.1)) = true then (if bt424.2.2 = 0 then ((heap_Sort.f kj2 t401).bind fun t429 => ((remontoirlaw02_as.f kj2 t429).bind fun t432 => ((remontoirlaw02_as.f kj2 t401).bind fun t435 => ((remontoirref02_Same.f kj2 t432 t435).bind fun t438 => (if t438 = true then ((remontoirlaw02_as.f kj2 t401).bind fun t439 => ((remontoirlaw02_as.f kj2 t421).bind fun t442 => ((remontoirref02_Same.f kj2 t439 t442).bind fun t445 => (if t445 = true then ((heap_Right.f kj2 t401).bind fun t446 => (if t446 = true then ((remontoirlaw02_knows.f kj2).bind fun t447 => (some t447)) else (some false))) else (some false))))) else (some false)))))) else (some false)) else (some false)) else (none)) else (some false)))) else (none)))) else (none))) else (none)) else (none))) = some true := H
          have A15 := Aside0.mk A150
          clear A150
          obtain ⟨y404, hy404⟩ : ∃ y_ : List (S34), y_ = (([] : List (S34))) := ⟨_, rfl⟩
          replace H : (if 0 ≤ (Int.tmod (wrap64 (a1)) (l0.length : Int)) then (if (Int.tmod (wrap64 (a1)) (l0.length : Int)) ≤ (l0.length : Int) then ((some (l0.drop ((Int.tmod (wrap64 (a1)) (l0.length : Int)) : Int).toNat : List (S34))).bind fun y407 => (if y404.length + y407.length < 8796093022208 then ((some (y404 ++ y407 : List (S34))).bind fun y411 => ((some (l0.take ((Int.tmod (wrap64 (a1)) (l0.length : Int)) : Int).toNat : List (S34))).bind fun y414 => (if y411.length + y414.length < 8796093022208 then ((heap_Sort.f kj2 (y411 ++ y414)).bind fun t421 => ((heap_Min.f kj2 l0).bind fun bt424 => (if (t401.length : Int) = (l0.length : Int) then (if 0 < (t401.length : Int) then (if (((rd_T34 t401 0).f0) == bt424.1 && (((rd_T34 t401 0).f1) == bt424.2.1)) = true then (if bt424.2.2 = 0 then ((heap_Sort.f kj2 t401).bind fun t429 => ((remontoirlaw02_as.f kj2 t429).bind fun t432 => ((remontoirlaw02_as.f kj2 t401).bind fun t435 => ((remontoirref02_Same.f kj2 t432 t435).bind fun t438 => (if t438 = true then ((remontoirlaw02_as.f kj2 t401).bind fun t439 => ((remontoirlaw02_as.f kj2 t421).bind fun t442 => ((remontoirref02_Same.f kj2 t439 t442).bind fun t445 => (if t445 = true then ((heap_Right.f kj2 t401).bind fun t446 => (if t446 = true then ((remontoirlaw02_knows.f kj2).bind fun t447 => (some t447)) else (some false))) else (some false))))) else (some false)))))) else (some false)) else (some false)) else (none)) else (some false)))) else (none)))) else (none))) else (none)) else (none)) = some true := by first | (rw [hy404]; with_reducible exact H) | (have H2_ := (Option.bind_some _ _).symm.trans H; rw [hy404]; with_reducible exact H2_) | (have H2_ := (Option.bind_some _ _).symm.trans H; with_reducible exact H2_) | with_reducible exact H | (rw [hy404]; exact H) | exact H
          have Ny404 := Aside0.mk hy404
          clear hy404
          obtain ⟨ji16, hji16⟩ : ∃ j_ : Int, (Int.tmod (wrap64 (a1)) (l0.length : Int)) = j_ := ⟨_, rfl⟩
          replace H : (if 0 ≤ (ji16) then (if (ji16) ≤ (l0.length : Int) then ((some (l0.drop ((ji16) : Int).toNat : List (S34))).bind fun y407 => (if y404.length + y407.length < 8796093022208 then ((some (y404 ++ y407 : List (S34))).bind fun y411 => ((some (l0.take ((ji16) : Int).toNat : List (S34))).bind fun y414 => (if y411.length + y414.length < 8796093022208 then ((heap_Sort.f kj2 (y411 ++ y414)).bind fun t421 => ((heap_Min.f kj2 l0).bind fun bt424 => (if (t401.length : Int) = (l0.length : Int) then (if 0 < (t401.length : Int) then (if (((rd_T34 t401 0).f0) == bt424.1 && (((rd_T34 t401 0).f1) == bt424.2.1)) = true then (if bt424.2.2 = 0 then ((heap_Sort.f kj2 t401).bind fun t429 => ((remontoirlaw02_as.f kj2 t429).bind fun t432 => ((remontoirlaw02_as.f kj2 t401).bind fun t435 => ((remontoirref02_Same.f kj2 t432 t435).bind fun t438 => (if t438 = true then ((remontoirlaw02_as.f kj2 t401).bind fun t439 => ((remontoirlaw02_as.f kj2 t421).bind fun t442 => ((remontoirref02_Same.f kj2 t439 t442).bind fun t445 => (if t445 = true then ((heap_Right.f kj2 t401).bind fun t446 => (if t446 = true then ((remontoirlaw02_knows.f kj2).bind fun t447 => (some t447)) else (some false))) else (some false))))) else (some false)))))) else (some false)) else (some false)) else (none)) else (some false)))) else (none)))) else (none))) else (none)) else (none)) = some true := by first | (rw [hji16] at H; exact H) | (simp only [hji16] at H ⊢; exact H)
          (try rw [hji16] at A15)
          by_cases c17 : 0 ≤ (ji16)
          · rw [if_pos c17] at H
            have c17b0 := eq_true c17
            have c17b1 : decide (0 ≤ (ji16)) = true := decide_eq_true c17
            clear c17
            by_cases c18 : (ji16) ≤ (l0.length : Int)
            · rw [if_pos c18] at H
              have c18b0 := eq_true c18
              have c18b1 : decide ((ji16) ≤ (l0.length : Int)) = true := decide_eq_true c18
              clear c18
              obtain ⟨y407, hy407⟩ : ∃ y_ : List (S34), y_ = (l0.drop ((ji16) : Int).toNat) := ⟨_, rfl⟩
              replace H : (if y404.length + y407.length < 8796093022208 then ((some (y404 ++ y407 : List (S34))).bind fun y411 => ((some (l0.take ((ji16) : Int).toNat : List (S34))).bind fun y414 => (if y411.length + y414.length < 8796093022208 then ((heap_Sort.f kj2 (y411 ++ y414)).bind fun t421 => ((heap_Min.f kj2 l0).bind fun bt424 => (if (t401.length : Int) = (l0.length : Int) then (if 0 < (t401.length : Int) then (if (((rd_T34 t401 0).f0) == bt424.1 && (((rd_T34 t401 0).f1) == bt424.2.1)) = true then (if bt424.2.2 = 0 then ((heap_Sort.f kj2 t401).bind fun t429 => ((remontoirlaw02_as.f kj2 t429).bind fun t432 => ((remontoirlaw02_as.f kj2 t401).bind fun t435 => ((remontoirref02_Same.f kj2 t432 t435).bind fun t438 => (if t438 = true then ((remontoirlaw02_as.f kj2 t401).bind fun t439 => ((remontoirlaw02_as.f kj2 t421).bind fun t442 => ((remontoirref02_Same.f kj2 t439 t442).bind fun t445 => (if t445 = true then ((heap_Right.f kj2 t401).bind fun t446 => (if t446 = true then ((remontoirlaw02_knows.f kj2).bind fun t447 => (some t447)) else (some false))) else (some false))))) else (some false)))))) else (some false)) else (some false)) else (none)) else (some false)))) else (none)))) else (none)) = some true := by first | (rw [hy407]; with_reducible exact H) | (have H2_ := (Option.bind_some _ _).symm.trans H; rw [hy407]; with_reducible exact H2_) | (have H2_ := (Option.bind_some _ _).symm.trans H; with_reducible exact H2_) | with_reducible exact H | (rw [hy407]; exact H) | exact H
              have Ny407 := Aside0.mk hy407
              clear hy407
              by_cases c19 : y404.length + y407.length < 8796093022208
              · rw [if_pos c19] at H
                have LMc19 := Aside0.mk c19
                clear c19
                obtain ⟨y411, hy411⟩ : ∃ y_ : List (S34), y_ = (y404 ++ y407) := ⟨_, rfl⟩
                replace H : ((some (l0.take ((ji16) : Int).toNat : List (S34))).bind fun y414 => (if y411.length + y414.length < 8796093022208 then ((heap_Sort.f kj2 (y411 ++ y414)).bind fun t421 => ((heap_Min.f kj2 l0).bind fun bt424 => (if (t401.length : Int) = (l0.length : Int) then (if 0 < (t401.length : Int) then (if (((rd_T34 t401 0).f0) == bt424.1 && (((rd_T34 t401 0).f1) == bt424.2.1)) = true then (if bt424.2.2 = 0 then ((heap_Sort.f kj2 t401).bind fun t429 => ((remontoirlaw02_as.f kj2 t429).bind fun t432 => ((remontoirlaw02_as.f kj2 t401).bind fun t435 => ((remontoirref02_Same.f kj2 t432 t435).bind fun t438 => (if t438 = true then ((remontoirlaw02_as.f kj2 t401).bind fun t439 => ((remontoirlaw02_as.f kj2 t421).bind fun t442 => ((remontoirref02_Same.f kj2 t439 t442).bind fun t445 => (if t445 = true then ((heap_Right.f kj2 t401).bind fun t446 => (if t446 = true then ((remontoirlaw02_knows.f kj2).bind fun t447 => (some t447)) else (some false))) else (some false))))) else (some false)))))) else (some false)) else (some false)) else (none)) else (some false)))) else (none))) = some true := by first | (rw [hy411]; with_reducible exact H) | (have H2_ := (Option.bind_some _ _).symm.trans H; rw [hy411]; with_reducible exact H2_) | (have H2_ := (Option.bind_some _ _).symm.trans H; with_reducible exact H2_) | with_reducible exact H | (rw [hy411]; exact H) | exact H
                have Ny411 := Aside0.mk hy411
                clear hy411
                have c20b0 := eq_true (of_decide_eq_true (by first | (with_reducible assumption) | assumption) : 0 ≤ (ji16))
                have c21b0 := eq_true (of_decide_eq_true (by first | (with_reducible assumption) | assumption) : (ji16) ≤ (l0.length : Int))
                obtain ⟨y414, hy414⟩ : ∃ y_ : List (S34), y_ = (l0.take ((ji16) : Int).toNat) := ⟨_, rfl⟩
                replace H : (if y411.length + y414.length < 8796093022208 then ((heap_Sort.f kj2 (y411 ++ y414)).bind fun t421 => ((heap_Min.f kj2 l0).bind fun bt424 => (if (t401.length : Int) = (l0.length : Int) then (if 0 < (t401.length : Int) then (if (((rd_T34 t401 0).f0) == bt424.1 && (((rd_T34 t401 0).f1) == bt424.2.1)) = true then (if bt424.2.2 = 0 then ((heap_Sort.f kj2 t401).bind fun t429 => ((remontoirlaw02_as.f kj2 t429).bind fun t432 => ((remontoirlaw02_as.f kj2 t401).bind fun t435 => ((remontoirref02_Same.f kj2 t432 t435).bind fun t438 => (if t438 = true then ((remontoirlaw02_as.f kj2 t401).bind fun t439 => ((remontoirlaw02_as.f kj2 t421).bind fun t442 => ((remontoirref02_Same.f kj2 t439 t442).bind fun t445 => (if t445 = true then ((heap_Right.f kj2 t401).bind fun t446 => (if t446 = true then ((remontoirlaw02_knows.f kj2).bind fun t447 => (some t447)) else (some false))) else (some false))))) else (some false)))))) else (some false)) else (some false)) else (none)) else (some false)))) else (none)) = some true := by first | (rw [hy414]; with_reducible exact H) | (have H2_ := (Option.bind_some _ _).symm.trans H; rw [hy414]; with_reducible exact H2_) | (have H2_ := (Option.bind_some _ _).symm.trans H; with_reducible exact H2_) | with_reducible exact H | (rw [hy414]; exact H) | exact H
                have Ny414 := Aside0.mk hy414
                clear hy414
                by_cases c22 : y411.length + y414.length < 8796093022208
                · rw [if_pos c22] at H
                  have LMc22 := Aside0.mk c22
                  clear c22
                  obtain ⟨y418, hy418⟩ : ∃ y_ : List (S34), y_ = (y411 ++ y414) := ⟨_, rfl⟩
                  replace H : ((heap_Sort.f kj2 y418).bind fun t421 => ((heap_Min.f kj2 l0).bind fun bt424 => (if (t401.length : Int) = (l0.length : Int) then (if 0 < (t401.length : Int) then (if (((rd_T34 t401 0).f0) == bt424.1 && (((rd_T34 t401 0).f1) == bt424.2.1)) = true then (if bt424.2.2 = 0 then ((heap_Sort.f kj2 t401).bind fun t429 => ((remontoirlaw02_as.f kj2 t429).bind fun t432 => ((remontoirlaw02_as.f kj2 t401).bind fun t435 => ((remontoirref02_Same.f kj2 t432 t435).bind fun t438 => (if t438 = true then ((remontoirlaw02_as.f kj2 t401).bind fun t439 => ((remontoirlaw02_as.f kj2 t421).bind fun t442 => ((remontoirref02_Same.f kj2 t439 t442).bind fun t445 => (if t445 = true then ((heap_Right.f kj2 t401).bind fun t446 => (if t446 = true then ((remontoirlaw02_knows.f kj2).bind fun t447 => (some t447)) else (some false))) else (some false))))) else (some false)))))) else (some false)) else (some false)) else (none)) else (some false)))) = some true := by first | (rw [hy418]; with_reducible exact H) | (have H2_ := (Option.bind_some _ _).symm.trans H; rw [hy418]; with_reducible exact H2_) | (have H2_ := (Option.bind_some _ _).symm.trans H; with_reducible exact H2_) | with_reducible exact H | (rw [hy418]; exact H) | exact H
                  have Ny418 := Aside0.mk hy418
                  clear hy418
                  replace H := Option.bind_eq_some_iff.mp H
                  obtain ⟨t421, A230, H⟩ := H
                  replace H : ((heap_Min.f kj2 l0).bind fun bt424 => (if (t401.length : Int) = (l0.length : Int) then (if 0 < (t401.length : Int) then (if (((rd_T34 t401 0).f0) == bt424.1 && (((rd_T34 t401 0).f1) == bt424.2.1)) = true then (if bt424.2.2 = 0 then ((heap_Sort.f kj2 t401).bind fun t429 => ((remontoirlaw02_as.f kj2 t429).bind fun t432 => ((remontoirlaw02_as.f kj2 t401).bind fun t435 => ((remontoirref02_Same.f kj2 t432 t435).bind fun t438 => (if t438 = true then ((remontoirlaw02_as.f kj2 t401).bind fun t439 => ((remontoirlaw02_as.f kj2 t421).bind fun t442 => ((remontoirref02_Same.f kj2 t439 t442).bind fun t445 => (if t445 = true then ((heap_Right.f kj2 t401).bind fun t446 => (if t446 = true then ((remontoirlaw02_knows.f kj2).bind fun t447 => (some t447)) else (some false))) else (some false))))) else (some false)))))) else (some false)) else (some false)) else (none)) else (some false))) = some true := H
                  have A23 := Aside0.mk A230
                  clear A230
                  replace H := Option.bind_eq_some_iff.mp H
                  obtain ⟨⟨t424, t425, t426⟩, A240, H⟩ := H
                  replace H : (if (t401.length : Int) = (l0.length : Int) then (if 0 < (t401.length : Int) then (if (((rd_T34 t401 0).f0) == t424 && (((rd_T34 t401 0).f1) == t425)) = true then (if t426 = 0 then ((heap_Sort.f kj2 t401).bind fun t429 => ((remontoirlaw02_as.f kj2 t429).bind fun t432 => ((remontoirlaw02_as.f kj2 t401).bind fun t435 => ((remontoirref02_Same.f kj2 t432 t435).bind fun t438 => (if t438 = true then ((remontoirlaw02_as.f kj2 t401).bind fun t439 => ((remontoirlaw02_as.f kj2 t421).bind fun t442 => ((remontoirref02_Same.f kj2 t439 t442).bind fun t445 => (if t445 = true then ((heap_Right.f kj2 t401).bind fun t446 => (if t446 = true then ((remontoirlaw02_knows.f kj2).bind fun t447 => (some t447)) else (some false))) else (some false))))) else (some false)))))) else (some false)) else (some false)) else (none)) else (some false)) = some true := H
                  have A24 := Aside0.mk A240
                  clear A240
                  by_cases c25 : (t401.length : Int) = (l0.length : Int)
                  · rw [if_pos c25] at H
                    have c25b0 : ((t401.length : Int) == (l0.length : Int)) = true := beq_iff_eq.mpr c25
                    have c25b1 : ((t401.length : Int) != (l0.length : Int)) = false := bne_eq_false_iff_eq.mpr c25
                    have c25b2 : (t401.length == l0.length) = true := by first | simpa using c25 | (simp at c25 ⊢; omega)
                    clear c25
                    by_cases c26 : 0 < (t401.length : Int)
                    · rw [if_pos c26] at H
                      have c26b0 : decide (0 < (t401.length : Int)) = true := decide_eq_true c26
                      have c26b1 : decide (0 < t401.length) = true := decide_eq_true (by omega)
                      clear c26
                      by_cases c27 : (((rd_T34 t401 0).f0) == t424 && (((rd_T34 t401 0).f1) == t425)) = true
                      · rw [if_pos c27] at H
                        have c27b0 : (((rd_T34 t401 0).f0) == t424 && (((rd_T34 t401 0).f1) == t425)) = true := c27
                        (try (have c27b1 : decide (((rd_T34 t401 0).f0) = t424 && (((rd_T34 t401 0).f1) == t425)) = true := by simpa using c27))
                        (try (have c27b2 : (((rd_T34 t401 0).f0) == t424 && (((rd_T34 t401 0).f1) == t425)) = true := by simpa using c27))
                        clear c27
                        by_cases c28 : t426 = 0
                        · rw [if_pos c28] at H
                          have c28b0 : (t426 == 0) = true := beq_iff_eq.mpr c28
                          have c28b1 : (t426 != 0) = false := bne_eq_false_iff_eq.mpr c28
                          clear c28
                          replace H := Option.bind_eq_some_iff.mp H
                          obtain ⟨t429, A290, H⟩ := H
                          replace H : ((remontoirlaw02_as.f kj2 t429).bind fun t432 => ((remontoirlaw02_as.f kj2 t401).bind fun t435 => ((remontoirref02_Same.f kj2 t432 t435).bind fun t438 => (if t438 = true then ((remontoirlaw02_as.f kj2 t401).bind fun t439 => ((remontoirlaw02_as.f kj2 t421).bind fun t442 => ((remontoirref02_Same.f kj2 t439 t442).bind fun t445 => (if t445 = true then ((heap_Right.f kj2 t401).bind fun t446 => (if t446 = true then ((remontoirlaw02_knows.f kj2).bind fun t447 => (some t447)) else (some false))) else (some false))))) else (some false))))) = some true := H
                          have A29 := Aside0.mk A290
                          clear A290
                          replace H := Option.bind_eq_some_iff.mp H
                          obtain ⟨t432, A300, H⟩ := H
                          replace H : ((remontoirlaw02_as.f kj2 t401).bind fun t435 => ((remontoirref02_Same.f kj2 t432 t435).bind fun t438 => (if t438 = true then ((remontoirlaw02_as.f kj2 t401).bind fun t439 => ((remontoirlaw02_as.f kj2 t421).bind fun t442 => ((remontoirref02_Same.f kj2 t439 t442).bind fun t445 => (if t445 = true then ((heap_Right.f kj2 t401).bind fun t446 => (if t446 = true then ((remontoirlaw02_knows.f kj2).bind fun t447 => (some t447)) else (some false))) else (some false))))) else (some false)))) = some true := H
                          have A30 := Aside0.mk A300
                          clear A300
                          replace H := Option.bind_eq_some_iff.mp H
                          obtain ⟨t435, A310, H⟩ := H
                          replace H : ((remontoirref02_Same.f kj2 t432 t435).bind fun t438 => (if t438 = true then ((remontoirlaw02_as.f kj2 t401).bind fun t439 => ((remontoirlaw02_as.f kj2 t421).bind fun t442 => ((remontoirref02_Same.f kj2 t439 t442).bind fun t445 => (if t445 = true then ((heap_Right.f kj2 t401).bind fun t446 => (if t446 = true then ((remontoirlaw02_knows.f kj2).bind fun t447 => (some t447)) else (some false))) else (some false))))) else (some false))) = some true := H
                          have A31 := Aside0.mk A310
                          clear A310
                          replace H := Option.bind_eq_some_iff.mp H
                          obtain ⟨t438, A320, H⟩ := H
                          replace H : (if t438 = true then ((remontoirlaw02_as.f kj2 t401).bind fun t439 => ((remontoirlaw02_as.f kj2 t421).bind fun t442 => ((remontoirref02_Same.f kj2 t439 t442).bind fun t445 => (if t445 = true then ((heap_Right.f kj2 t401).bind fun t446 => (if t446 = true then ((remontoirlaw02_knows.f kj2).bind fun t447 => (some t447)) else (some false))) else (some false))))) else (some false)) = some true := H
                          have A32 := Aside0.mk A320
                          clear A320
                          by_cases c33 : t438 = true
                          · subst c33
                            have H1 : ((remontoirlaw02_as.f kj2 t401).bind fun t439 => ((remontoirlaw02_as.f kj2 t421).bind fun t442 => ((remontoirref02_Same.f kj2 t439 t442).bind fun t445 => (if t445 = true then ((heap_Right.f kj2 t401).bind fun t446 => (if t446 = true then ((remontoirlaw02_knows.f kj2).bind fun t447 => (some t447)) else (some false))) else (some false))))) = some true := by rw [if_pos rfl] at H; exact H
                            clear H
                            have H := H1
                            clear H1
                            replace H := Option.bind_eq_some_iff.mp H
                            obtain ⟨t439, A340, H⟩ := H
                            replace H : ((remontoirlaw02_as.f kj2 t421).bind fun t442 => ((remontoirref02_Same.f kj2 t439 t442).bind fun t445 => (if t445 = true then ((heap_Right.f kj2 t401).bind fun t446 => (if t446 = true then ((remontoirlaw02_knows.f kj2).bind fun t447 => (some t447)) else (some false))) else (some false)))) = some true := H
                            have A34 := Aside0.mk A340
                            clear A340
                            replace H := Option.bind_eq_some_iff.mp H
                            obtain ⟨t442, A350, H⟩ := H
                            replace H : ((remontoirref02_Same.f kj2 t439 t442).bind fun t445 => (if t445 = true then ((heap_Right.f kj2 t401).bind fun t446 => (if t446 = true then ((remontoirlaw02_knows.f kj2).bind fun t447 => (some t447)) else (some false))) else (some false))) = some true := H
                            have A35 := Aside0.mk A350
                            clear A350
                            replace H := Option.bind_eq_some_iff.mp H
                            obtain ⟨t445, A360, H⟩ := H
                            replace H : (if t445 = true then ((heap_Right.f kj2 t401).bind fun t446 => (if t446 = true then ((remontoirlaw02_knows.f kj2).bind fun t447 => (some t447)) else (some false))) else (some false)) = some true := H
                            have A36 := Aside0.mk A360
                            clear A360
                            by_cases c37 : t445 = true
                            · subst c37
                              have H1 : ((heap_Right.f kj2 t401).bind fun t446 => (if t446 = true then ((remontoirlaw02_knows.f kj2).bind fun t447 => (some t447)) else (some false))) = some true := by rw [if_pos rfl] at H; exact H
                              clear H
                              have H := H1
                              clear H1
                              replace H := Option.bind_eq_some_iff.mp H
                              obtain ⟨t446, A380, H⟩ := H
                              replace H : (if t446 = true then ((remontoirlaw02_knows.f kj2).bind fun t447 => (some t447)) else (some false)) = some true := H
                              have A38 := Aside0.mk A380
                              clear A380
                              by_cases c39 : t446 = true
                              · subst c39
                                have H1 : ((remontoirlaw02_knows.f kj2).bind fun t447 => (some t447)) = some true := by rw [if_pos rfl] at H; exact H
                                clear H
                                have H := H1
                                clear H1
                                replace H := Option.bind_eq_some_iff.mp H
                                obtain ⟨t447, A400, H⟩ := H
                                replace H : (some t447) = some true := H
                                have A40 := Aside0.mk A400
                                clear A400
                                have HR_ := Aside0.mk (Option.some.inj H)
                                clear H
                                try go_wp2_with (first | ((with_reducible refine gate_callee (f := 36) rfl ?_); refine goesL_ (some 32) rfl rfl Try.func36 (by kernel_rfl) rfl #[.slice A0 l0.length c0] rfl (by (try simp only [List.map_toArray, List.map_cons, List.map_nil]); first | done | rfl | (simp only [List.length_drop, List.length_take]; rfl)) ?_; (with_reducible refine (heap_Sort.calls kj2 _ _ l0 t401 _ ?side1 ?side2 A15.out).mono ?_); (case side1 => repeat (first | exact (Kd.C_below HR0.out HB.out) | (with_reducible refine Kd.C_alloc ?_ _) | (with_reducible refine Kd.C_drewN ?_ _) | (with_reducible refine Kd.C_drew ?_))); (case side2 => exact HC0.out); rintro e w41 ⟨v402, rfl, ho0, hb⟩; refine ⟨_, rfl, ?_⟩; have n0_ := Aside0.mk (Kd.R_lower ho0 (below_size (by repeat (first | (with_reducible first | exact HB.out | apply below_alloc | apply pw_below_drewN | apply below_drew1) | exact HB.out)))); have n1_ := Aside0.mk (below_step (by repeat (first | (with_reducible first | exact HB.out | apply below_alloc | apply pw_below_drewN | apply below_drew1) | exact HB.out)) hb); clear HB; have HO403 := n0_; have HB := n1_; clear n0_ n1_; (try clear hb); (try clear hb2); (try clear hk); (try clear hi); (try clear ho0)))
                                have n0_ := Aside0.mk (Kd.R_drew HO403.out)
                                have n1_ := Aside0.mk (below_drew1 HB.out)
                                clear HO403
                                clear HB
                                have HO403 := n0_
                                have HB := n1_
                                clear n0_ n1_
                                have q43 : ((ji16) : Int) ≤ ((l0.length : Int) : Int) := of_decide_eq_true (by first | (with_reducible assumption) | assumption)
                                obtain ⟨i043, hi043, _, hsz43, _⟩ := info_parts info34
                                have hroom43 : l0.length ≤ c0 := HC0.out
                                have hC43 : Kd.C k34 _ A0 l0.length l0 := HR0.out
                                have q043 : (0 : Int) ≤ ((ji16) : Int) := of_decide_eq_true (by first | (with_reducible assumption) | assumption)
                                have hcut43 := cut_from (P := Try.prog) 32 34 .i64 Try.underlying32 hi043 2 hsz43 A0 l0.length c0 (ji16) q043 q43
                                have hr43 := Kd.C_drop (m := ((ji16) : Int).toNat) (c := c0) hC43 (by omega) hroom43
                                obtain ⟨A43, hA43⟩ : ∃ A1, A1 = (if c0 = ((ji16) : Int).toNat then A0 else (A0 : Option Addr).map (·.add (((ji16) : Int).toNat * 2))) := ⟨_, rfl⟩
                                obtain ⟨c43, hc43⟩ : ∃ c1, c1 = c0 - ((ji16) : Int).toNat := ⟨_, rfl⟩
                                have hy43 : y407.length = l0.length - ((ji16) : Int).toNat := (by rw [Ny407.out, List.length_drop] <;> omega)
                                rw [show (l0).drop ((ji16) : Int).toNat = y407 from Ny407.out.symm] at hr43
                                replace hr43 : Kd.C k34 _ A43 y407.length y407 := (by rw [hA43]; exact hr43)
                                rw [← hy43, ← hA43, ← hc43] at hcut43
                                have HR410 := Aside0.mk hr43
                                have HC410 := Aside0.mk (show y407.length ≤ c43 from by rw [hy43, hc43]; exact Nat.sub_le_sub_right hroom43 _)
                                have KC43 := Aside0.mk hc43
                                clear hr43 hC43 hroom43 hi043 hsz43 hc43
                                have KY43 := Aside0.mk hy43
                                have KA43 := Aside0.mk hA43
                                clear hy43 hA43
                                replace q43 := eq_true q43
                                have q44 : ((ji16) : Int) ≤ ((l0.length : Int) : Int) := of_decide_eq_true (by first | (with_reducible assumption) | assumption)
                                obtain ⟨i044, hi044, _, hsz44, _⟩ := info_parts info34
                                have hroom44 : l0.length ≤ c0 := HC0.out
                                have hC44 : Kd.C k34 _ A0 l0.length l0 := HR0.out
                                have hcut44 := cut_to (P := Try.prog) 32 34 .i64 Try.underlying32 hi044 A0 l0.length c0 (ji16) (of_decide_eq_true (by first | (with_reducible assumption) | assumption)) q44 hroom44
                                have hr44 := Kd.C_take (m := ((ji16) : Int).toNat) hC44 (by omega)
                                have hy44 : y414.length = ((ji16) : Int).toNat := (by rw [Ny414.out, List.length_take]; omega)
                                rw [← Ny414.out] at hr44
                                rw [← hy44] at hcut44
                                have HR417 := Aside0.mk hr44
                                have HC417 := Aside0.mk (show y414.length ≤ c0 from by omega)
                                clear hr44 hC44 hroom44 hi044 hsz44
                                have KY44 := Aside0.mk hy44
                                clear hy44
                                replace q44 := eq_true q44
                                refine start_ (n := 11) (S := fun w' => True) (ds := []) #[false, false, false, false, false, false, false, false, false, false, false] (by kernel_rfl) rfl rfl trivial (fun hHeld => ?_); refine with_tabW remontoirlaw02_HeapAgain.tab5 remontoirlaw02_HeapAgain.bits5 (fun HT_ HW_ => ?_)
                                generalize w41.drew = w42 at HO403 HB HR410 HR417 hHeld ⊢
                                refine pure_ (i := 1) (N := some 34) (v := ?_) (a' := ?_) #[false, true, false, false, false, false, false, false, false, false, false] rfl rfl (any_of HT_.out (by kernel_rfl)) (fun _ _ _ h => h) (Or.inl ⟨by rfl, ?_⟩) ?_ ?_
                                rotate_left
                                · intro w'
                                  go_simp
                                  with_reducible rfl
                                rotate_left
                                · simp only [Act.put, List.setIfInBounds_toArray, List.set_cons_zero, List.set_cons_succ, i64_w, i32_w]
                                  rfl
                                refine pure_ (i := 2) (N := some 35) (v := ?_) (a' := ?_) #[false, true, true, false, false, false, false, false, false, false, false] rfl rfl (any_of HT_.out (by kernel_rfl)) (fun _ _ _ h => h) (Or.inl ⟨by rfl, ?_⟩) ?_ ?_
                                rotate_left
                                · intro w'
                                  go_simp
                                  with_reducible rfl
                                rotate_left
                                · simp only [Act.put, List.setIfInBounds_toArray, List.set_cons_zero, List.set_cons_succ, i64_w, i32_w]
                                  rfl
                                refine pure_ (i := 3) (N := some 36) (v := ?_) (a' := ?_) #[false, true, true, true, false, false, false, false, false, false, false] rfl rfl (any_of HT_.out (by kernel_rfl)) (fun _ _ _ h => h) (Or.inl ⟨by rfl, ?_⟩) ?_ ?_
                                rotate_left
                                · intro w'
                                  go_simp
                                  with_reducible rfl
                                rotate_left
                                · simp only [Act.put, List.setIfInBounds_toArray, List.set_cons_zero, List.set_cons_succ, i64_w, i32_w]
                                  rfl
                                refine pure_ (i := 5) (N := some 38) (v := ?_) (a' := ?_) #[false, true, true, true, false, true, false, false, false, false, false] rfl rfl (any_of HT_.out (by kernel_rfl)) (fun _ _ _ h => h) (Or.inl ⟨by rfl, ?_⟩) ?_ ?_
                                rotate_left
                                · intro w'
                                  go_simp
                                  with_reducible rfl
                                rotate_left
                                · simp only [Act.put, List.setIfInBounds_toArray, List.set_cons_zero, List.set_cons_succ, i64_w, i32_w]
                                  rfl
                                refine pure_ (i := 6) (N := some 39) (v := ?_) (a' := ?_) #[false, true, true, true, false, true, true, false, false, false, false] rfl rfl (any_of HT_.out (by kernel_rfl)) (fun _ _ _ h => h) (Or.inl ⟨by rfl, ?_⟩) ?_ ?_
                                rotate_left
                                · intro w'
                                  go_simp
                                  with_reducible rfl
                                rotate_left
                                · simp only [Act.put, List.setIfInBounds_toArray, List.set_cons_zero, List.set_cons_succ, i64_w, i32_w]
                                  rfl
                                refine pure_ (i := 7) (N := some 40) (v := ?_) (a' := ?_) #[false, true, true, true, false, true, true, true, false, false, false] rfl rfl (any_of HT_.out (by kernel_rfl)) (fun _ _ _ h => h) (Or.inl ⟨by rfl, ?_⟩) ?_ ?_
                                rotate_left
                                · intro w'
                                  go_simp
                                  with_reducible rfl
                                rotate_left
                                · simp only [Act.put, List.setIfInBounds_toArray, List.set_cons_zero, List.set_cons_succ, i64_w, i32_w]
                                  rfl
                                refine one_ (i := 0) (N := some 33) #[true, true, true, true, false, true, true, true, false, false, false] rfl rfl (one_of HT_.out (by kernel_rfl)) (by decide) (fun K hK => ?_)
                                refine Kd.R_lit_step k34 _ 34 ?hg (N := 33) ?hd (xs := ([] : List (S34))) (inner := []) (ok := fun _ => True) (okp := fun _ => True) ?hr ?hp (fun _ hk => hk) trivial (Below.refl _ _) (Nat.le_refl _) (by simp) ?_; (case hd => rfl); (case hg => rfl); (case hr => first | (go_simp; done) | (go_simp; rfl)); (case hp => exact (Reps.none _ _))
                                intro v405 w45 ho46 hb hg_ hnew_
                                clear hg_ hnew_
                                (first | rw [← Ny404.out] at ho46 | (simp only [Int.reduceToNat] at ho46; rw [← Ny404.out] at ho46))
                                have n0_ := Aside0.mk (Kd.R_elder' (by (with_reducible repeat (first | apply Kd.R_alloc | apply Kd.R_drewN | apply Kd.R_drew)); exact HO403.out) (Kd.R_base ho46) hb)
                                have n1_ := Aside0.mk (Kd.R_lower (Kd.R_new' ho46 (Kd.R_lt (by (with_reducible repeat (first | apply Kd.R_alloc | apply Kd.R_drewN | apply Kd.R_drew)); exact HO403.out))) (below_size (by repeat (first | (with_reducible first | exact HB.out | apply below_alloc | apply pw_below_drewN | apply below_drew1) | exact HB.out))))
                                have n2_ := Aside0.mk (below_step (by repeat (first | (with_reducible first | exact HB.out | apply below_alloc | apply pw_below_drewN | apply below_drew1) | exact HB.out)) hb)
                                clear HO403
                                clear HB
                                have HO403 := n0_
                                have HO406 := n1_
                                have HB := n2_
                                clear n0_ n1_ n2_
                                clear hb ho46
                                refine hK.out _ _ trivial (fun hHeld => ?_)
                                clear hK K
                                refine norm_ (a' := ?_) ?_ ?_
                                rotate_left
                                · show Act.put _ (some 33) _ = _
                                  simp only [Act.put, List.setIfInBounds_toArray, List.set_cons_zero, List.set_cons_succ, i64_w, i32_w]
                                  rfl
                                refine one_ (i := 4) (N := some 37) #[true, true, true, true, true, true, true, true, false, false, false] rfl rfl (one_of HT_.out (by kernel_rfl)) (by decide) (fun K hK => ?_)
                                refine Kd.R_append_rows_step k34 (w0 := w) w.heap.size (by rfl) (.tmp 33) (.tmp 36) 32 34 (.agg #[(.int .i64 0), (.int .i64 0)]) 16 rfl Try.underlying32 info34 rfl (by decide) (by omega) v405 y404 y407 _ _ _ (fun k_ => some k_ ≠ (v402 : Value).ownBlock) (fun _ => False) rfl rfl ?aO ?aR (fun _ _ h => h) (fun _ h => h.elim) ?aF ?aB ?aS ?aL ?_
                                (case aR => repeat (first | exact (Kd.C_below HR410.out HB.out) | (with_reducible refine Kd.C_alloc ?_ _) | (with_reducible refine Kd.C_drewN ?_ _) | (with_reducible refine Kd.C_drew ?_)))
                                (case aB => exact (by repeat (first | (with_reducible first | exact HB.out | apply below_alloc | apply pw_below_drewN | apply below_drew1) | exact HB.out)))
                                (case aF => exact (fun k_ hk => Kd.fresh' (Kd.R_lt (by (with_reducible repeat (first | apply Kd.R_alloc | apply Kd.R_drewN | apply Kd.R_drew)); exact HO403.out)) k_ hk))
                                (case aO => exact (by (with_reducible repeat (first | apply Kd.R_alloc | apply Kd.R_drewN | apply Kd.R_drew)); exact Kd.R_mono HO406.out (fun _ hk => hk.2)))
                                (case aS => exact (below_size (by repeat (first | (with_reducible first | exact HB.out | apply below_alloc | apply pw_below_drewN | apply below_drew1) | exact HB.out))))
                                (case aL => have := LMc19.out; omega)
                                intro v412 w47 ho hb hg hat
                                rw [← Ny411.out] at ho
                                have n0_ := Aside0.mk (Kd.R_after (ok := (fun _ => True)) (by (with_reducible repeat (first | apply Kd.R_alloc | apply Kd.R_drewN | apply Kd.R_drew)); exact HO403.out) hg hat)
                                have n1_ := Aside0.mk (hb)
                                have n2_ := Aside0.mk (ho)
                                clear HO403
                                clear HB
                                clear HO406
                                have HO403 := n0_
                                have HB := n1_
                                have HO413 := n2_
                                clear n0_ n1_ n2_
                                clear ho hb hg hat
                                refine hK.out _ _ trivial (fun hHeld => ?_)
                                clear hK K
                                refine norm_ (a' := ?_) ?_ ?_
                                rotate_left
                                · show Act.put _ (some 37) _ = _
                                  simp only [Act.put, List.setIfInBounds_toArray, List.set_cons_zero, List.set_cons_succ, i64_w, i32_w]
                                  rfl
                                refine one_ (i := 8) (N := some 41) #[true, true, true, true, true, true, true, true, true, false, false] rfl rfl (one_of HT_.out (by kernel_rfl)) (by decide) (fun K hK => ?_)
                                refine Kd.R_append_rows_step k34 (w0 := w) w.heap.size (by rfl) (.tmp 37) (.tmp 40) 32 34 (.agg #[(.int .i64 0), (.int .i64 0)]) 16 rfl Try.underlying32 info34 rfl (by decide) (by omega) v412 y411 y414 _ _ _ (fun k_ => some k_ ≠ (v402 : Value).ownBlock) (fun _ => False) rfl rfl ?aO ?aR (fun _ _ h => h) (fun _ h => h.elim) ?aF ?aB ?aS ?aL ?_
                                (case aR => repeat (first | exact (Kd.C_below HR417.out HB.out) | (with_reducible refine Kd.C_alloc ?_ _) | (with_reducible refine Kd.C_drewN ?_ _) | (with_reducible refine Kd.C_drew ?_)))
                                (case aB => exact (by repeat (first | (with_reducible first | exact HB.out | apply below_alloc | apply pw_below_drewN | apply below_drew1) | exact HB.out)))
                                (case aF => exact (fun k_ hk => Kd.fresh' (Kd.R_lt (by (with_reducible repeat (first | apply Kd.R_alloc | apply Kd.R_drewN | apply Kd.R_drew)); exact HO403.out)) k_ hk))
                                (case aO => exact (by (with_reducible repeat (first | apply Kd.R_alloc | apply Kd.R_drewN | apply Kd.R_drew)); exact HO413.out))
                                (case aS => exact (below_size (by repeat (first | (with_reducible first | exact HB.out | apply below_alloc | apply pw_below_drewN | apply below_drew1) | exact HB.out))))
                                (case aL => have := LMc22.out; omega)
                                intro v419 w48 ho hb hg hat
                                rw [← Ny418.out] at ho
                                have n0_ := Aside0.mk (Kd.R_after (ok := (fun _ => True)) (by (with_reducible repeat (first | apply Kd.R_alloc | apply Kd.R_drewN | apply Kd.R_drew)); exact HO403.out) hg hat)
                                have n1_ := Aside0.mk (hb)
                                have n2_ := Aside0.mk (ho)
                                clear HO403
                                clear HB
                                clear HO413
                                have HO403 := n0_
                                have HB := n1_
                                have HO420 := n2_
                                clear n0_ n1_ n2_
                                clear ho hb hg hat
                                obtain ⟨Ao49, co49, eo49⟩ := Kd.R_slice HO420.out
                                (first | subst eo49 | (injection eo49 with f1_ f2_ f3_; have f4_ := f1_.symm; have f5_ := f3_.symm; clear f1_ f2_ f3_; subst f4_; subst f5_))
                                refine hK.out _ _ trivial (fun hHeld => ?_)
                                clear hK K
                                refine norm_ (a' := ?_) ?_ ?_
                                rotate_left
                                · show Act.put _ (some 41) _ = _
                                  simp only [Act.put, List.setIfInBounds_toArray, List.set_cons_zero, List.set_cons_succ, i64_w, i32_w]
                                  rfl
                                refine one_ (i := 9) (N := some 42) #[true, true, true, true, true, true, true, true, true, true, false] rfl rfl (one_of HT_.out (by kernel_rfl)) (by decide) (fun K hK => ?_)
                                refine goes_ Try.func36 (by kernel_rfl) rfl #[.slice Ao49 y418.length co49] (by rfl) rfl rfl (by (try simp only [List.map_toArray, List.map_cons, List.map_nil]); first | done | rfl | (simp only [List.length_drop, List.length_take]; rfl)) ?_
                                with_reducible refine (heap_Sort.calls kj2 _ _ y418 t421 _ ?side1 ?side2 A23.out).mono ?_
                                (case side1 => repeat (first | exact (Kd.R_reads' HO420.out).2.2 | (with_reducible refine Kd.C_alloc ?_ _) | (with_reducible refine Kd.C_drewN ?_ _) | (with_reducible refine Kd.C_drew ?_)))
                                (case side2 => exact (Kd.R_reads' HO420.out).2.1)
                                rintro e w50 ⟨v422, rfl, ho0, hb⟩
                                refine ⟨_, rfl, ?_⟩
                                have n0_ := Aside0.mk (Kd.R_elder' (by (with_reducible repeat (first | apply Kd.R_alloc | apply Kd.R_drewN | apply Kd.R_drew)); exact HO403.out) (Kd.R_base ho0) hb)
                                have n1_ := Aside0.mk (Kd.R_elder' (by (with_reducible repeat (first | apply Kd.R_alloc | apply Kd.R_drewN | apply Kd.R_drew)); exact HO420.out) (Kd.R_base ho0) hb)
                                have n2_ := Aside0.mk (Kd.R_lower (Kd.R_new' (Kd.R_new' ho0 (Kd.R_lt (by (with_reducible repeat (first | apply Kd.R_alloc | apply Kd.R_drewN | apply Kd.R_drew)); exact HO403.out))) (Kd.R_lt (by (with_reducible repeat (first | apply Kd.R_alloc | apply Kd.R_drewN | apply Kd.R_drew)); exact HO420.out))) (below_size (by repeat (first | (with_reducible first | exact HB.out | apply below_alloc | apply pw_below_drewN | apply below_drew1) | exact HB.out))))
                                have n3_ := Aside0.mk (below_step (by repeat (first | (with_reducible first | exact HB.out | apply below_alloc | apply pw_below_drewN | apply below_drew1) | exact HB.out)) hb)
                                clear HO403
                                clear HO420
                                clear HB
                                have HO403 := n0_
                                have HO420 := n1_
                                have HO423 := n2_
                                have HB := n3_
                                clear n0_ n1_ n2_ n3_
                                (try clear hb)
                                (try clear hb2)
                                (try clear hk)
                                (try clear hi)
                                (try clear ho0)
                                refine hK.out _ _ trivial (fun hHeld => ?_)
                                clear hK K
                                refine norm_ (a' := ?_) ?_ ?_
                                rotate_left
                                · show Act.put _ (some 42) _ = _
                                  simp only [Act.put, List.setIfInBounds_toArray, List.set_cons_zero, List.set_cons_succ, i64_w, i32_w]
                                  rfl
                                refine pure_ (i := 10) (N := some 7) (v := ?_) (a' := ?_) #[true, true, true, true, true, true, true, true, true, true, true] rfl rfl (any_of HT_.out (by kernel_rfl)) (fun _ _ _ h => h) (Or.inl ⟨by rfl, ?_⟩) ?_ ?_
                                rotate_left
                                · intro w'
                                  go_simp
                                  with_reducible rfl
                                rotate_left
                                · simp only [Act.put, List.setIfInBounds_toArray, List.set_cons_zero, List.set_cons_succ, i64_w, i32_w]
                                  rfl
                                refine done_ (done_of HT_.out (by kernel_rfl)) ?_
                                try go_wp2_with (first | ((with_reducible refine gate_callee (f := 31) rfl ?_); refine goesL_ (some 45) rfl rfl Try.func31 (by kernel_rfl) rfl #[.slice A0 l0.length c0] rfl (by (try simp only [List.map_toArray, List.map_cons, List.map_nil]); first | done | rfl | (simp only [List.length_drop, List.length_take]; rfl)) ?_; (with_reducible refine (heap_Min.calls kj2 _ _ l0 t424 t425 t426 _ ?side1 ?side2 A24.out).mono ?_); (case side1 => repeat (first | exact (Kd.C_below HR0.out HB.out) | (with_reducible refine Kd.C_alloc ?_ _) | (with_reducible refine Kd.C_drewN ?_ _) | (with_reducible refine Kd.C_drew ?_))); (case side2 => exact HC0.out); rintro e w51 ⟨rfl, hb⟩; refine ⟨_, rfl, ?_⟩; have n0_ := Aside0.mk (Kd.R_below (by (with_reducible repeat (first | apply Kd.R_alloc | apply Kd.R_drewN | apply Kd.R_drew)); exact HO403.out) hb); have n1_ := Aside0.mk (Kd.R_below (by (with_reducible repeat (first | apply Kd.R_alloc | apply Kd.R_drewN | apply Kd.R_drew)); exact HO420.out) hb); have n2_ := Aside0.mk (Kd.R_below (by (with_reducible repeat (first | apply Kd.R_alloc | apply Kd.R_drewN | apply Kd.R_drew)); exact HO423.out) hb); have n3_ := Aside0.mk (below_step (by repeat (first | (with_reducible first | exact HB.out | apply below_alloc | apply pw_below_drewN | apply below_drew1) | exact HB.out)) hb); clear HO403; clear HO420; clear HO423; clear HB; have HO403 := n0_; have HO420 := n1_; have HO423 := n2_; have HB := n3_; clear n0_ n1_ n2_ n3_; (try clear hb); (try clear hb2); (try clear hk); (try clear hi)) | ((with_reducible refine gate_dst (N := 8) rfl ?_); (try (refine gate_guard (by rfl) ?_; dsimp only)); refine box_event ?hg (N := 8) ?hd (cs := #[.int .i64 0, .int .i64 0]) (t := 34) ?hr ?_; (case hd => rfl); (case hg => rfl); (case hr => first | (go_simp; done) | (go_simp; rfl)); intro gb427 hg w52 hbox hb; have n0_ := Aside0.mk (Kd.R_below (Kd.R_elderB (by (with_reducible repeat (first | apply Kd.R_alloc | apply Kd.R_drewN | apply Kd.R_drew)); exact HO403.out) gb427 (Nat.le_of_eq hg.symm)) hb); have n1_ := Aside0.mk (Kd.R_below (Kd.R_elderB (by (with_reducible repeat (first | apply Kd.R_alloc | apply Kd.R_drewN | apply Kd.R_drew)); exact HO420.out) gb427 (Nat.le_of_eq hg.symm)) hb); have n2_ := Aside0.mk (Kd.R_below (Kd.R_elderB (by (with_reducible repeat (first | apply Kd.R_alloc | apply Kd.R_drewN | apply Kd.R_drew)); exact HO423.out) gb427 (Nat.le_of_eq hg.symm)) hb); have n3_ := Aside0.mk (below_step (by repeat (first | (with_reducible first | exact HB.out | apply below_alloc | apply pw_below_drewN | apply below_drew1) | exact HB.out)) hb); have n4_ := Aside0.mk (hbox); have n5_ := Aside0.mk ((by rw [hg]; exact (below_size (by repeat (first | (with_reducible first | exact HB.out | apply below_alloc | apply pw_below_drewN | apply below_drew1) | exact HB.out))) : w.heap.size ≤ gb427)); have n6_ := Aside0.mk ((by rw [hg]; exact (below_size (by repeat (first | (with_reducible first | exact HB.out | apply below_alloc | apply pw_below_drewN | apply below_drew1) | exact HB.out))) : w.heap.size ≤ gb427)); clear HO403; clear HO420; clear HO423; clear HB; have HO403 := n0_; have HO420 := n1_; have HO423 := n2_; have HB := n3_; have BK427 := n4_; have GW427 := n5_; have GE427 := n6_; clear n0_ n1_ n2_ n3_ n4_ n5_ n6_; clear hb hbox hg; have hcz53_0 : w52.cell? ⟨gb427, 0, none⟩ = some (.int .i64 0) := (blk_cell BK427.out 0).trans rfl; have hcz53_1 : w52.cell? ⟨gb427, 1, none⟩ = some (.int .i64 0) := (blk_cell BK427.out 1).trans rfl; have hfz53_0 := blk_frozen BK427.out 0; have hfz53_1 := blk_frozen BK427.out 1))
                                have n0_ : Aside0 (Kd.R k34 34 ((w52.setCell ⟨gb427, 0, none⟩ (.int .i64 t424)).setCell ⟨gb427, 1, none⟩ (.int .i64 t425)) w.heap.size (fun k_ => some k_ ≠ (.slice Ao49 y418.length co49 : Value).ownBlock ∧ some k_ ≠ (v422 : Value).ownBlock ∧ k_ ≠ gb427) v402 t401) := ⟨by (with_reducible repeat (first | apply Kd.R_alloc | apply Kd.R_drewN | apply Kd.R_drew)); exact Kd.R_mono (Kd.R_far (p := ⟨gb427, 1, none⟩) (Kd.R_far (p := ⟨gb427, 0, none⟩) (Kd.R_mono HO403.out (fun k_ hk => (⟨hk, hk.2⟩ : _ ∧ k_ ≠ gb427))) (fun _ hk => hk.2) (.int .i64 t424)) (fun _ hk => hk.2) (.int .i64 t425)) (fun _ hk => ⟨hk.1.1.1.2, ⟨hk.1.1.2, hk.1.2⟩⟩)⟩
                                have n1_ : Aside0 (Kd.R k34 34 ((w52.setCell ⟨gb427, 0, none⟩ (.int .i64 t424)).setCell ⟨gb427, 1, none⟩ (.int .i64 t425)) w.heap.size (fun k_ => some k_ ≠ (v402 : Value).ownBlock ∧ some k_ ≠ (v422 : Value).ownBlock ∧ k_ ≠ gb427) (.slice Ao49 y418.length co49) y418) := ⟨by (with_reducible repeat (first | apply Kd.R_alloc | apply Kd.R_drewN | apply Kd.R_drew)); exact Kd.R_mono (Kd.R_far (p := ⟨gb427, 1, none⟩) (Kd.R_far (p := ⟨gb427, 0, none⟩) (Kd.R_mono HO420.out (fun k_ hk => (⟨hk, hk.2⟩ : _ ∧ k_ ≠ gb427))) (fun _ hk => hk.2) (.int .i64 t424)) (fun _ hk => hk.2) (.int .i64 t425)) (fun _ hk => ⟨hk.1.1.1, ⟨hk.1.1.2, hk.1.2⟩⟩)⟩
                                have n2_ : Aside0 (Kd.R k34 34 ((w52.setCell ⟨gb427, 0, none⟩ (.int .i64 t424)).setCell ⟨gb427, 1, none⟩ (.int .i64 t425)) w.heap.size (fun k_ => some k_ ≠ (v402 : Value).ownBlock ∧ some k_ ≠ (.slice Ao49 y418.length co49 : Value).ownBlock ∧ k_ ≠ gb427) v422 t421) := ⟨by (with_reducible repeat (first | apply Kd.R_alloc | apply Kd.R_drewN | apply Kd.R_drew)); exact Kd.R_mono (Kd.R_far (p := ⟨gb427, 1, none⟩) (Kd.R_far (p := ⟨gb427, 0, none⟩) (Kd.R_mono HO423.out (fun k_ hk => (⟨hk, hk.2⟩ : _ ∧ k_ ≠ gb427))) (fun _ hk => hk.2) (.int .i64 t424)) (fun _ hk => hk.2) (.int .i64 t425)) (fun _ hk => ⟨hk.1.1.1.2, ⟨hk.1.1.2, hk.1.2⟩⟩)⟩
                                have n3_ : Aside0 (((w52.setCell ⟨gb427, 0, none⟩ (.int .i64 t424)).setCell ⟨gb427, 1, none⟩ (.int .i64 t425)).heap[gb427]? = some (.cells #[.int .i64 t424, .int .i64 t425] 34 (0, 0))) := ⟨by (with_reducible repeat (first | refine blk_drewN ?_ _ | refine blk_drew ?_ | refine blk_alloc ?_ _)); refine blk_put (cs := #[.int .i64 t424, .int .i64 0]) ?_ 1 _ rfl; (with_reducible repeat (first | refine blk_drewN ?_ _ | refine blk_drew ?_ | refine blk_alloc ?_ _)); refine blk_put (cs := #[.int .i64 0, .int .i64 0]) ?_ 0 _ rfl; (with_reducible repeat (first | refine blk_drewN ?_ _ | refine blk_drew ?_ | refine blk_alloc ?_ _)); exact BK427.out⟩
                                have n4_ : Aside0 (Below w.heap.size w ((w52.setCell ⟨gb427, 0, none⟩ (.int .i64 t424)).setCell ⟨gb427, 1, none⟩ (.int .i64 t425))) := ⟨by repeat (first | (with_reducible first | exact HB.out | apply below_alloc | apply pw_below_drewN | apply below_drew1 | refine below_set ?_ GE427.out) | exact HB.out)⟩
                                (try clear HO403)
                                (try clear HO420)
                                (try clear HO423)
                                (try clear BK427)
                                (try clear HB)
                                generalize ((w52.setCell ⟨gb427, 0, none⟩ (.int .i64 t424)).setCell ⟨gb427, 1, none⟩ (.int .i64 t425)) = w54 at n0_ n1_ n2_ n3_ n4_ ⊢
                                have HO403 := n0_
                                have HO420 := n1_
                                have HO423 := n2_
                                have BK427 := n3_
                                have HB := n4_
                                clear n0_ n1_ n2_ n3_ n4_
                                have n0_ := Aside0.mk (Kd.R_drew HO403.out)
                                have n1_ := Aside0.mk (Kd.R_drew HO420.out)
                                have n2_ := Aside0.mk (Kd.R_drew HO423.out)
                                have n3_ := Aside0.mk (blk_drew BK427.out)
                                have n4_ := Aside0.mk (below_drew1 HB.out)
                                clear HO403
                                clear HO420
                                clear HO423
                                clear BK427
                                clear HB
                                have HO403 := n0_
                                have HO420 := n1_
                                have HO423 := n2_
                                have BK427 := n3_
                                have HB := n4_
                                clear n0_ n1_ n2_ n3_ n4_
                                obtain ⟨Ao56, co56, eo56⟩ := Kd.R_slice HO403.out
                                (first | subst eo56 | (injection eo56 with f1_ f2_ f3_; have f4_ := f1_.symm; have f5_ := f3_.symm; clear f1_ f2_ f3_; subst f4_; subst f5_))
                                have p428 : 0 ≤ (0 : Int) := (by omega)
                                have q428 : 0 < (t401.length : Int) := of_decide_eq_true (by first | (with_reducible assumption) | assumption)
                                obtain ⟨ad428, e428, hx428_0, hx428_1⟩ := at_T34 (Kd.R_reads' HO403.out).2.2 0 p428 q428
                                cases e428
                                have qi428 : (0 < t401.length) = True := eq_true (by omega)
                                (try rw [show ((0 : Int)).toNat = 0 from rfl] at hx428_0)
                                (try rw [show 0 * 2 = 0 from rfl] at hx428_0)
                                (try rw [Addr.add_zero'] at hx428_0)
                                (try rw [show ((0 : Int)).toNat = 0 from rfl] at hx428_1)
                                (try rw [show 0 * 2 = 0 from rfl] at hx428_1)
                                (try rw [Addr.add_zero'] at hx428_1)
                                replace p428 := eq_true p428
                                replace q428 := eq_true q428
                                refine start_ (n := 39) (S := fun w' => w'.cell? ⟨gb427, 0, none⟩ = some (.int .i64 t424) ∧ w'.cell? ⟨gb427, 1, none⟩ = some (.int .i64 t425) ∧ w'.cell? ad428 = some (.int .i64 ((rd_T34 t401 0).f0)) ∧ w'.cell? ⟨ad428.block, ad428.off + 1, none⟩ = some (.int .i64 ((rd_T34 t401 0).f1))) (ds := []) #[false, false, false, false, false, false, false, false, false, false, false, false, false, false, false, false, false, false, false, false, false, false, false, false, false, false, false, false, false, false, false, false, false, false, false, false, false, false, false] (by kernel_rfl) rfl rfl ⟨(blk_cell BK427.out 0).trans rfl, (blk_cell BK427.out 1).trans rfl, hx428_0, hx428_1⟩ (fun hHeld => ?_); refine with_tabW remontoirlaw02_HeapAgain.tab7 remontoirlaw02_HeapAgain.bits7 (fun HT_ HW_ => ?_)
                                generalize w54.drew = w55 at HO403 HO420 HO423 BK427 HB hx428_0 hx428_1 hHeld ⊢
                                refine pure_ (i := 0) (N := some 48) (v := ?_) (a' := ?_) #[true, false, false, false, false, false, false, false, false, false, false, false, false, false, false, false, false, false, false, false, false, false, false, false, false, false, false, false, false, false, false, false, false, false, false, false, false, false, false] rfl rfl (any_of HT_.out (by kernel_rfl)) (fun _ _ _ h => h) (Or.inl ⟨by rfl, ?_⟩) ?_ ?_
                                rotate_left
                                · intro w'
                                  go_simp
                                  with_reducible rfl
                                rotate_left
                                · simp only [Act.put, List.setIfInBounds_toArray, List.set_cons_zero, List.set_cons_succ, i64_w, i32_w]
                                  rfl
                                refine pure_ (i := 1) (N := some 49) (v := ?_) (a' := ?_) #[true, true, false, false, false, false, false, false, false, false, false, false, false, false, false, false, false, false, false, false, false, false, false, false, false, false, false, false, false, false, false, false, false, false, false, false, false, false, false] rfl rfl (any_of HT_.out (by kernel_rfl)) (fun _ _ _ h => h) (Or.inl ⟨by rfl, ?_⟩) ?_ ?_
                                rotate_left
                                · intro w'
                                  go_simp
                                  with_reducible rfl
                                rotate_left
                                · simp only [Act.put, List.setIfInBounds_toArray, List.set_cons_zero, List.set_cons_succ, i64_w, i32_w]
                                  rfl
                                refine pure_ (i := 2) (N := some 50) (v := ?_) (a' := ?_) #[true, true, true, false, false, false, false, false, false, false, false, false, false, false, false, false, false, false, false, false, false, false, false, false, false, false, false, false, false, false, false, false, false, false, false, false, false, false, false] rfl rfl (any_of HT_.out (by kernel_rfl)) (fun _ _ _ h => h) (Or.inl ⟨by rfl, ?_⟩) ?_ ?_
                                rotate_left
                                · intro w'
                                  go_simp
                                  with_reducible rfl
                                rotate_left
                                · simp only [Act.put, List.setIfInBounds_toArray, List.set_cons_zero, List.set_cons_succ, i64_w, i32_w]
                                  rfl
                                refine pure_ (i := 3) (N := some 51) (v := ?_) (a' := ?_) #[true, true, true, true, false, false, false, false, false, false, false, false, false, false, false, false, false, false, false, false, false, false, false, false, false, false, false, false, false, false, false, false, false, false, false, false, false, false, false] rfl rfl (any_of HT_.out (by kernel_rfl)) (fun _ _ _ h => h) (Or.inl ⟨by rfl, ?_⟩) ?_ ?_
                                rotate_left
                                · intro w'
                                  go_simp
                                  with_reducible rfl
                                rotate_left
                                · simp only [Act.put, List.setIfInBounds_toArray, List.set_cons_zero, List.set_cons_succ, i64_w, i32_w]
                                  rfl
                                refine pure_ (i := 4) (N := some 52) (v := ?_) (a' := ?_) #[true, true, true, true, true, false, false, false, false, false, false, false, false, false, false, false, false, false, false, false, false, false, false, false, false, false, false, false, false, false, false, false, false, false, false, false, false, false, false] rfl rfl (any_of HT_.out (by kernel_rfl)) (fun _ _ _ h => h) (Or.inl ⟨by rfl, ?_⟩) ?_ ?_
                                rotate_left
                                · intro w'
                                  go_simp
                                  with_reducible rfl
                                rotate_left
                                · simp only [Act.put, List.setIfInBounds_toArray, List.set_cons_zero, List.set_cons_succ, i64_w, i32_w]
                                  rfl
                                refine pure_ (i := 5) (N := some 53) (v := ?_) (a' := ?_) #[true, true, true, true, true, true, false, false, false, false, false, false, false, false, false, false, false, false, false, false, false, false, false, false, false, false, false, false, false, false, false, false, false, false, false, false, false, false, false] rfl rfl (any_of HT_.out (by kernel_rfl)) (fun _ _ _ h => h) (Or.inl ⟨by rfl, ?_⟩) ?_ ?_
                                rotate_left
                                · intro w'
                                  go_simp
                                  with_reducible rfl
                                rotate_left
                                · simp only [Act.put, List.setIfInBounds_toArray, List.set_cons_zero, List.set_cons_succ, i64_w, i32_w]
                                  rfl
                                refine pure_ (i := 6) (N := some 54) (v := ?_) (a' := ?_) #[true, true, true, true, true, true, true, false, false, false, false, false, false, false, false, false, false, false, false, false, false, false, false, false, false, false, false, false, false, false, false, false, false, false, false, false, false, false, false] rfl rfl (any_of HT_.out (by kernel_rfl)) (fun _ _ _ h => h) (Or.inl ⟨by rfl, ?_⟩) ?_ ?_
                                rotate_left
                                · intro w'
                                  go_simp
                                  with_reducible rfl
                                rotate_left
                                · simp only [Act.put, List.setIfInBounds_toArray, List.set_cons_zero, List.set_cons_succ, i64_w, i32_w]
                                  rfl
                                refine pure_ (i := 7) (N := some 55) (v := ?_) (a' := ?_) #[true, true, true, true, true, true, true, true, false, false, false, false, false, false, false, false, false, false, false, false, false, false, false, false, false, false, false, false, false, false, false, false, false, false, false, false, false, false, false] rfl rfl (any_of HT_.out (by kernel_rfl)) (fun _ _ _ h => h) (Or.inl ⟨by rfl, ?_⟩) ?_ ?_
                                rotate_left
                                · intro w'
                                  go_simp
                                  with_reducible rfl
                                rotate_left
                                · simp only [Act.put, List.setIfInBounds_toArray, List.set_cons_zero, List.set_cons_succ, i64_w, i32_w]
                                  rfl
                                refine take_ (i := 8) (N := some 56) (v := ?_) (a' := ?_) #[true, true, true, true, true, true, true, true, true, false, false, false, false, false, false, false, false, false, false, false, false, false, false, false, false, false, false, false, false, false, false, false, false, false, false, false, false, false, false] rfl rfl (take_ofW HT_.out HW_.out (by kernel_rfl)) (fun _ _ _ h => h) (Or.inl ⟨by rfl, ?_⟩) hHeld ?_ ?_
                                rotate_left
                                · rintro w' ⟨s0, s1, s2, s3⟩
                                  go_simp
                                  with_reducible rfl
                                rotate_left
                                · simp only [Act.put, List.setIfInBounds_toArray, List.set_cons_zero, List.set_cons_succ, i64_w, i32_w]
                                  rfl
                                refine take_ (i := 9) (N := some 57) (v := ?_) (a' := ?_) #[true, true, true, true, true, true, true, true, true, true, false, false, false, false, false, false, false, false, false, false, false, false, false, false, false, false, false, false, false, false, false, false, false, false, false, false, false, false, false] rfl rfl (take_ofW HT_.out HW_.out (by kernel_rfl)) (fun _ _ _ h => h) (Or.inl ⟨by rfl, ?_⟩) hHeld ?_ ?_
                                rotate_left
                                · rintro w' ⟨s0, s1, s2, s3⟩
                                  go_simp
                                  with_reducible rfl
                                rotate_left
                                · simp only [Act.put, List.setIfInBounds_toArray, List.set_cons_zero, List.set_cons_succ, i64_w, i32_w]
                                  rfl
                                refine pure_ (i := 10) (N := some 58) (v := ?_) (a' := ?_) #[true, true, true, true, true, true, true, true, true, true, true, false, false, false, false, false, false, false, false, false, false, false, false, false, false, false, false, false, false, false, false, false, false, false, false, false, false, false, false] rfl rfl (any_of HT_.out (by kernel_rfl)) (fun _ _ _ h => h) (Or.inl ⟨by rfl, ?_⟩) ?_ ?_
                                rotate_left
                                · intro w'
                                  go_simp
                                  with_reducible rfl
                                rotate_left
                                · simp only [Act.put, List.setIfInBounds_toArray, List.set_cons_zero, List.set_cons_succ, i64_w, i32_w]
                                  rfl
                                refine pure_ (i := 11) (N := some 59) (v := ?_) (a' := ?_) #[true, true, true, true, true, true, true, true, true, true, true, true, false, false, false, false, false, false, false, false, false, false, false, false, false, false, false, false, false, false, false, false, false, false, false, false, false, false, false] rfl rfl (any_of HT_.out (by kernel_rfl)) (fun _ _ _ h => h) (Or.inl ⟨by rfl, ?_⟩) ?_ ?_
                                rotate_left
                                · intro w'
                                  go_simp
                                  with_reducible rfl
                                rotate_left
                                · simp only [Act.put, List.setIfInBounds_toArray, List.set_cons_zero, List.set_cons_succ, i64_w, i32_w]
                                  rfl
                                refine pure_ (i := 12) (N := some 60) (v := ?_) (a' := ?_) #[true, true, true, true, true, true, true, true, true, true, true, true, true, false, false, false, false, false, false, false, false, false, false, false, false, false, false, false, false, false, false, false, false, false, false, false, false, false, false] rfl rfl (any_of HT_.out (by kernel_rfl)) (fun _ _ _ h => h) (Or.inl ⟨by rfl, ?_⟩) ?_ ?_
                                rotate_left
                                · intro w'
                                  go_simp
                                  with_reducible rfl
                                rotate_left
                                · simp only [Act.put, List.setIfInBounds_toArray, List.set_cons_zero, List.set_cons_succ, i64_w, i32_w]
                                  rfl
                                refine pure_ (i := 13) (N := some 61) (v := ?_) (a' := ?_) #[true, true, true, true, true, true, true, true, true, true, true, true, true, true, false, false, false, false, false, false, false, false, false, false, false, false, false, false, false, false, false, false, false, false, false, false, false, false, false] rfl rfl (any_of HT_.out (by kernel_rfl)) (fun _ _ _ h => h) (Or.inl ⟨by rfl, ?_⟩) ?_ ?_
                                rotate_left
                                · intro w'
                                  go_simp
                                  with_reducible rfl
                                rotate_left
                                · simp only [Act.put, List.setIfInBounds_toArray, List.set_cons_zero, List.set_cons_succ, i64_w, i32_w]
                                  rfl
                                refine pure_ (i := 14) (N := some 62) (v := ?_) (a' := ?_) #[true, true, true, true, true, true, true, true, true, true, true, true, true, true, true, false, false, false, false, false, false, false, false, false, false, false, false, false, false, false, false, false, false, false, false, false, false, false, false] rfl rfl (any_of HT_.out (by kernel_rfl)) (fun _ _ _ h => h) (Or.inl ⟨by rfl, ?_⟩) ?_ ?_
                                rotate_left
                                · intro w'
                                  go_simp
                                  with_reducible rfl
                                rotate_left
                                · simp only [Act.put, List.setIfInBounds_toArray, List.set_cons_zero, List.set_cons_succ, i64_w, i32_w]
                                  rfl
                                refine pure_ (i := 15) (N := some 63) (v := ?_) (a' := ?_) #[true, true, true, true, true, true, true, true, true, true, true, true, true, true, true, true, false, false, false, false, false, false, false, false, false, false, false, false, false, false, false, false, false, false, false, false, false, false, false] rfl rfl (any_of HT_.out (by kernel_rfl)) (fun _ _ _ h => h) (Or.inl ⟨by rfl, ?_⟩) ?_ ?_
                                rotate_left
                                · intro w'
                                  go_simp
                                  with_reducible rfl
                                rotate_left
                                · simp only [Act.put, List.setIfInBounds_toArray, List.set_cons_zero, List.set_cons_succ, i64_w, i32_w]
                                  rfl
                                refine pure_ (i := 16) (N := some 64) (v := ?_) (a' := ?_) #[true, true, true, true, true, true, true, true, true, true, true, true, true, true, true, true, true, false, false, false, false, false, false, false, false, false, false, false, false, false, false, false, false, false, false, false, false, false, false] rfl rfl (any_of HT_.out (by kernel_rfl)) (fun _ _ _ h => h) (Or.inl ⟨by rfl, ?_⟩) ?_ ?_
                                rotate_left
                                · intro w'
                                  go_simp
                                  with_reducible rfl
                                rotate_left
                                · simp only [Act.put, List.setIfInBounds_toArray, List.set_cons_zero, List.set_cons_succ, i64_w, i32_w]
                                  rfl
                                refine pure_ (i := 17) (N := some 65) (v := ?_) (a' := ?_) #[true, true, true, true, true, true, true, true, true, true, true, true, true, true, true, true, true, true, false, false, false, false, false, false, false, false, false, false, false, false, false, false, false, false, false, false, false, false, false] rfl rfl (any_of HT_.out (by kernel_rfl)) (fun _ _ _ h => h) (Or.inl ⟨by rfl, ?_⟩) ?_ ?_
                                rotate_left
                                · intro w'
                                  go_simp
                                  with_reducible rfl
                                rotate_left
                                · simp only [Act.put, List.setIfInBounds_toArray, List.set_cons_zero, List.set_cons_succ, i64_w, i32_w]
                                  rfl
                                refine pure_ (i := 20) (N := some 68) (v := ?_) (a' := ?_) #[true, true, true, true, true, true, true, true, true, true, true, true, true, true, true, true, true, true, false, false, true, false, false, false, false, false, false, false, false, false, false, false, false, false, false, false, false, false, false] rfl rfl (any_of HT_.out (by kernel_rfl)) (fun _ _ _ h => h) (Or.inl ⟨by rfl, ?_⟩) ?_ ?_
                                rotate_left
                                · intro w'
                                  go_simp
                                  with_reducible rfl
                                rotate_left
                                · simp only [Act.put, List.setIfInBounds_toArray, List.set_cons_zero, List.set_cons_succ, i64_w, i32_w]
                                  rfl
                                refine one_ (i := 18) (N := some 66) #[true, true, true, true, true, true, true, true, true, true, true, true, true, true, true, true, true, true, true, false, true, false, false, false, false, false, false, false, false, false, false, false, false, false, false, false, false, false, false] rfl rfl (one_of HT_.out (by kernel_rfl)) (by decide) (fun K hK => ?_)
                                refine goes_ Try.func36 (by kernel_rfl) rfl #[.slice (some ad428) t401.length co56] (by rfl) rfl rfl (by (try simp only [List.map_toArray, List.map_cons, List.map_nil]); first | done | rfl | (simp only [List.length_drop, List.length_take]; rfl)) ?_
                                with_reducible refine (heap_Sort.calls kj2 _ _ t401 t429 _ ?side1 ?side2 A29.out).mono ?_
                                (case side1 => repeat (first | exact (Kd.R_reads' HO403.out).2.2 | (with_reducible refine Kd.C_alloc ?_ _) | (with_reducible refine Kd.C_drewN ?_ _) | (with_reducible refine Kd.C_drew ?_)))
                                (case side2 => exact (Kd.R_reads' HO403.out).2.1)
                                rintro e w57 ⟨v430, rfl, ho0, hb⟩
                                have HS2_ := (hb.cell (World.block_lt_of_cell? _ _ (hHeld.2.2.1))).trans (hHeld.2.2.1)
                                have HS3_ := (hb.cell (World.block_lt_of_cell? _ _ (hHeld.2.2.2))).trans (hHeld.2.2.2)
                                refine ⟨_, rfl, ?_⟩
                                have n0_ := Aside0.mk (Kd.R_elder' (by (with_reducible repeat (first | apply Kd.R_alloc | apply Kd.R_drewN | apply Kd.R_drew)); exact HO403.out) (Kd.R_base ho0) hb)
                                have n1_ := Aside0.mk (Kd.R_elder' (by (with_reducible repeat (first | apply Kd.R_alloc | apply Kd.R_drewN | apply Kd.R_drew)); exact HO420.out) (Kd.R_base ho0) hb)
                                have n2_ := Aside0.mk (Kd.R_elder' (by (with_reducible repeat (first | apply Kd.R_alloc | apply Kd.R_drewN | apply Kd.R_drew)); exact HO423.out) (Kd.R_base ho0) hb)
                                have n3_ := Aside0.mk (Kd.R_lower (Kd.R_newB (Kd.R_new' (Kd.R_new' (Kd.R_new' ho0 (Kd.R_lt (by (with_reducible repeat (first | apply Kd.R_alloc | apply Kd.R_drewN | apply Kd.R_drew)); exact HO403.out))) (Kd.R_lt (by (with_reducible repeat (first | apply Kd.R_alloc | apply Kd.R_drewN | apply Kd.R_drew)); exact HO420.out))) (Kd.R_lt (by (with_reducible repeat (first | apply Kd.R_alloc | apply Kd.R_drewN | apply Kd.R_drew)); exact HO423.out))) (g := gb427) (o := .cells #[.int .i64 t424, .int .i64 t425] 34 (0, 0)) (by (with_reducible repeat (first | refine blk_drewN ?_ _ | refine blk_drew ?_ | refine blk_alloc ?_ _)); exact BK427.out)) (below_size (by repeat (first | (with_reducible first | exact HB.out | apply below_alloc | apply pw_below_drewN | apply below_drew1 | refine below_set ?_ GE427.out) | exact HB.out))))
                                have n4_ := Aside0.mk (blk_below (g := gb427) (o := .cells #[.int .i64 t424, .int .i64 t425] 34 (0, 0)) (by (with_reducible repeat (first | refine blk_drewN ?_ _ | refine blk_drew ?_ | refine blk_alloc ?_ _)); exact BK427.out) hb)
                                have n5_ := Aside0.mk (below_step (by repeat (first | (with_reducible first | exact HB.out | apply below_alloc | apply pw_below_drewN | apply below_drew1 | refine below_set ?_ GE427.out) | exact HB.out)) hb)
                                clear HO403
                                clear HO420
                                clear HO423
                                clear BK427
                                clear HB
                                have HO403 := n0_
                                have HO420 := n1_
                                have HO423 := n2_
                                have HO431 := n3_
                                have BK427 := n4_
                                have HB := n5_
                                clear n0_ n1_ n2_ n3_ n4_ n5_
                                (try clear hb)
                                (try clear hb2)
                                (try clear hk)
                                (try clear hi)
                                (try clear ho0)
                                obtain ⟨Ao58, co58, eo58⟩ := Kd.R_slice HO431.out
                                (first | subst eo58 | (injection eo58 with f1_ f2_ f3_; have f4_ := f1_.symm; have f5_ := f3_.symm; clear f1_ f2_ f3_; subst f4_; subst f5_))
                                refine hK.out _ _ ⟨(blk_cell BK427.out 0).trans rfl, (blk_cell BK427.out 1).trans rfl, HS2_, HS3_⟩ (fun hHeld => ?_)
                                clear hK K
                                refine norm_ (a' := ?_) ?_ ?_
                                rotate_left
                                · show Act.put _ (some 66) _ = _
                                  simp only [Act.put, List.setIfInBounds_toArray, List.set_cons_zero, List.set_cons_succ, i64_w, i32_w]
                                  rfl
                                refine one_ (i := 19) (N := some 67) #[true, true, true, true, true, true, true, true, true, true, true, true, true, true, true, true, true, true, true, true, true, false, false, false, false, false, false, false, false, false, false, false, false, false, false, false, false, false, false] rfl rfl (one_of HT_.out (by kernel_rfl)) (by decide) (fun K hK => ?_)
                                refine goes_ Try.func29 (by kernel_rfl) rfl #[.slice Ao58 t429.length co58] (by rfl) rfl rfl (by (try simp only [List.map_toArray, List.map_cons, List.map_nil]); first | done | rfl | (simp only [List.length_drop, List.length_take]; rfl)) ?_
                                with_reducible refine (remontoirlaw02_as.calls kj2 _ _ t429 t432 _ ?side1 ?side2 A30.out).mono ?_
                                (case side1 => repeat (first | exact (Kd.R_reads' HO431.out).2.2 | (with_reducible refine Kd.C_alloc ?_ _) | (with_reducible refine Kd.C_drewN ?_ _) | (with_reducible refine Kd.C_drew ?_)))
                                (case side2 => exact (Kd.R_reads' HO431.out).2.1)
                                rintro e w59 ⟨v433, rfl, ho0, hb⟩
                                have HS2_ := (hb.cell (World.block_lt_of_cell? _ _ (hHeld.2.2.1))).trans (hHeld.2.2.1)
                                have HS3_ := (hb.cell (World.block_lt_of_cell? _ _ (hHeld.2.2.2))).trans (hHeld.2.2.2)
                                refine ⟨_, rfl, ?_⟩
                                have n0_ := Aside0.mk (Kd.R_below (by (with_reducible repeat (first | apply Kd.R_alloc | apply Kd.R_drewN | apply Kd.R_drew)); exact HO403.out) hb)
                                have n1_ := Aside0.mk (Kd.R_below (by (with_reducible repeat (first | apply Kd.R_alloc | apply Kd.R_drewN | apply Kd.R_drew)); exact HO420.out) hb)
                                have n2_ := Aside0.mk (Kd.R_below (by (with_reducible repeat (first | apply Kd.R_alloc | apply Kd.R_drewN | apply Kd.R_drew)); exact HO423.out) hb)
                                have n3_ := Aside0.mk (Kd.R_below (by (with_reducible repeat (first | apply Kd.R_alloc | apply Kd.R_drewN | apply Kd.R_drew)); exact HO431.out) hb)
                                have n4_ := Aside0.mk (Kd.R_lower ho0 (below_size (by repeat (first | (with_reducible first | exact HB.out | apply below_alloc | apply pw_below_drewN | apply below_drew1 | refine below_set ?_ GE427.out) | exact HB.out))))
                                have n5_ := Aside0.mk (blk_below (g := gb427) (o := .cells #[.int .i64 t424, .int .i64 t425] 34 (0, 0)) (by (with_reducible repeat (first | refine blk_drewN ?_ _ | refine blk_drew ?_ | refine blk_alloc ?_ _)); exact BK427.out) hb)
                                have n6_ := Aside0.mk (below_step (by repeat (first | (with_reducible first | exact HB.out | apply below_alloc | apply pw_below_drewN | apply below_drew1 | refine below_set ?_ GE427.out) | exact HB.out)) hb)
                                clear HO403
                                clear HO420
                                clear HO423
                                clear HO431
                                clear BK427
                                clear HB
                                have HO403 := n0_
                                have HO420 := n1_
                                have HO423 := n2_
                                have HO431 := n3_
                                have HO434 := n4_
                                have BK427 := n5_
                                have HB := n6_
                                clear n0_ n1_ n2_ n3_ n4_ n5_ n6_
                                (try clear hb)
                                (try clear hb2)
                                (try clear hk)
                                (try clear hi)
                                (try clear ho0)
                                refine hK.out _ _ ⟨(blk_cell BK427.out 0).trans rfl, (blk_cell BK427.out 1).trans rfl, HS2_, HS3_⟩ (fun hHeld => ?_)
                                clear hK K
                                refine norm_ (a' := ?_) ?_ ?_
                                rotate_left
                                · show Act.put _ (some 67) _ = _
                                  simp only [Act.put, List.setIfInBounds_toArray, List.set_cons_zero, List.set_cons_succ, i64_w, i32_w]
                                  rfl
                                refine one_ (i := 21) (N := some 69) #[true, true, true, true, true, true, true, true, true, true, true, true, true, true, true, true, true, true, true, true, true, true, false, false, false, false, false, false, false, false, false, false, false, false, false, false, false, false, false] rfl rfl (one_of HT_.out (by kernel_rfl)) (by decide) (fun K hK => ?_)
                                refine goes_ Try.func29 (by kernel_rfl) rfl #[.slice (some ad428) t401.length co56] (by rfl) rfl rfl (by (try simp only [List.map_toArray, List.map_cons, List.map_nil]); first | done | rfl | (simp only [List.length_drop, List.length_take]; rfl)) ?_
                                with_reducible refine (remontoirlaw02_as.calls kj2 _ _ t401 t435 _ ?side1 ?side2 A31.out).mono ?_
                                (case side1 => repeat (first | exact (Kd.R_reads' HO403.out).2.2 | (with_reducible refine Kd.C_alloc ?_ _) | (with_reducible refine Kd.C_drewN ?_ _) | (with_reducible refine Kd.C_drew ?_)))
                                (case side2 => exact (Kd.R_reads' HO403.out).2.1)
                                rintro e w60 ⟨v436, rfl, ho0, hb⟩
                                have HS2_ := (hb.cell (World.block_lt_of_cell? _ _ (hHeld.2.2.1))).trans (hHeld.2.2.1)
                                have HS3_ := (hb.cell (World.block_lt_of_cell? _ _ (hHeld.2.2.2))).trans (hHeld.2.2.2)
                                refine ⟨_, rfl, ?_⟩
                                have n0_ := Aside0.mk (Kd.R_below (by (with_reducible repeat (first | apply Kd.R_alloc | apply Kd.R_drewN | apply Kd.R_drew)); exact HO403.out) hb)
                                have n1_ := Aside0.mk (Kd.R_below (by (with_reducible repeat (first | apply Kd.R_alloc | apply Kd.R_drewN | apply Kd.R_drew)); exact HO420.out) hb)
                                have n2_ := Aside0.mk (Kd.R_below (by (with_reducible repeat (first | apply Kd.R_alloc | apply Kd.R_drewN | apply Kd.R_drew)); exact HO423.out) hb)
                                have n3_ := Aside0.mk (Kd.R_below (by (with_reducible repeat (first | apply Kd.R_alloc | apply Kd.R_drewN | apply Kd.R_drew)); exact HO431.out) hb)
                                have n4_ := Aside0.mk (Kd.R_elder' (by (with_reducible repeat (first | apply Kd.R_alloc | apply Kd.R_drewN | apply Kd.R_drew)); exact HO434.out) (Kd.R_base ho0) hb)
                                have n5_ := Aside0.mk (Kd.R_lower (Kd.R_new' ho0 (Kd.R_lt (by (with_reducible repeat (first | apply Kd.R_alloc | apply Kd.R_drewN | apply Kd.R_drew)); exact HO434.out))) (below_size (by repeat (first | (with_reducible first | exact HB.out | apply below_alloc | apply pw_below_drewN | apply below_drew1 | refine below_set ?_ GE427.out) | exact HB.out))))
                                have n6_ := Aside0.mk (blk_below (g := gb427) (o := .cells #[.int .i64 t424, .int .i64 t425] 34 (0, 0)) (by (with_reducible repeat (first | refine blk_drewN ?_ _ | refine blk_drew ?_ | refine blk_alloc ?_ _)); exact BK427.out) hb)
                                have n7_ := Aside0.mk (below_step (by repeat (first | (with_reducible first | exact HB.out | apply below_alloc | apply pw_below_drewN | apply below_drew1 | refine below_set ?_ GE427.out) | exact HB.out)) hb)
                                clear HO403
                                clear HO420
                                clear HO423
                                clear HO431
                                clear HO434
                                clear BK427
                                clear HB
                                have HO403 := n0_
                                have HO420 := n1_
                                have HO423 := n2_
                                have HO431 := n3_
                                have HO434 := n4_
                                have HO437 := n5_
                                have BK427 := n6_
                                have HB := n7_
                                clear n0_ n1_ n2_ n3_ n4_ n5_ n6_ n7_
                                (try clear hb)
                                (try clear hb2)
                                (try clear hk)
                                (try clear hi)
                                (try clear ho0)
                                obtain ⟨Ao61, co61, eo61⟩ := Kd.R_slice HO434.out
                                (first | subst eo61 | (injection eo61 with f1_ f2_ f3_; have f4_ := f1_.symm; have f5_ := f3_.symm; clear f1_ f2_ f3_; subst f4_; subst f5_))
                                obtain ⟨Ao62, co62, eo62⟩ := Kd.R_slice HO437.out
                                (first | subst eo62 | (injection eo62 with f1_ f2_ f3_; have f4_ := f1_.symm; have f5_ := f3_.symm; clear f1_ f2_ f3_; subst f4_; subst f5_))
                                refine hK.out _ _ ⟨(blk_cell BK427.out 0).trans rfl, (blk_cell BK427.out 1).trans rfl, HS2_, HS3_⟩ (fun hHeld => ?_)
                                clear hK K
                                refine norm_ (a' := ?_) ?_ ?_
                                rotate_left
                                · show Act.put _ (some 69) _ = _
                                  simp only [Act.put, List.setIfInBounds_toArray, List.set_cons_zero, List.set_cons_succ, i64_w, i32_w]
                                  rfl
                                refine one_ (i := 22) (N := some 70) #[true, true, true, true, true, true, true, true, true, true, true, true, true, true, true, true, true, true, true, true, true, true, true, false, false, false, false, false, false, false, false, false, false, false, false, false, false, false, false] rfl rfl (one_of HT_.out (by kernel_rfl)) (by decide) (fun K hK => ?_)
                                refine goes_ Try.func34 (by kernel_rfl) rfl #[.slice Ao61 t432.length co61, .slice Ao62 t435.length co62] (by rfl) rfl rfl (by (try simp only [List.map_toArray, List.map_cons, List.map_nil]); first | done | rfl | (simp only [List.length_drop, List.length_take]; rfl)) ?_
                                with_reducible refine (remontoirref02_Same.calls kj2 _ _ t432 _ _ t435 true _ ?side1 ?side2 ?side3 ?side4 A32.out).mono ?_
                                (case side1 => repeat (first | exact (Kd.R_reads' HO434.out).2.2 | (with_reducible refine Kd.C_alloc ?_ _) | (with_reducible refine Kd.C_drewN ?_ _) | (with_reducible refine Kd.C_drew ?_)))
                                (case side2 => exact (Kd.R_reads' HO434.out).2.1)
                                (case side3 => repeat (first | exact (Kd.R_reads' HO437.out).2.2 | (with_reducible refine Kd.C_alloc ?_ _) | (with_reducible refine Kd.C_drewN ?_ _) | (with_reducible refine Kd.C_drew ?_)))
                                (case side4 => exact (Kd.R_reads' HO437.out).2.1)
                                rintro e w' ⟨rfl, ⟨nd, rfl⟩⟩
                                refine ⟨_, rfl, ?_⟩
                                refine hK.out _ _ ⟨(blk_cell BK427.out 0).trans rfl, (blk_cell BK427.out 1).trans rfl, hHeld.2.2.1, hHeld.2.2.2⟩ (fun hHeld => ?_)
                                clear hK K
                                refine norm_ (a' := ?_) ?_ ?_
                                rotate_left
                                · show Act.put _ (some 70) _ = _
                                  simp only [Act.put, List.setIfInBounds_toArray, List.set_cons_zero, List.set_cons_succ, i64_w, i32_w]
                                  rfl
                                refine pure_ (i := 23) (N := some 71) (v := ?_) (a' := ?_) #[true, true, true, true, true, true, true, true, true, true, true, true, true, true, true, true, true, true, true, true, true, true, true, true, false, false, false, false, false, false, false, false, false, false, false, false, false, false, false] rfl rfl (any_of HT_.out (by kernel_rfl)) (fun _ _ _ h => h) (Or.inl ⟨by rfl, ?_⟩) ?_ ?_
                                rotate_left
                                · intro w'
                                  go_simp
                                  with_reducible rfl
                                rotate_left
                                · simp only [Act.put, List.setIfInBounds_toArray, List.set_cons_zero, List.set_cons_succ, i64_w, i32_w]
                                  rfl
                                refine pure_ (i := 24) (N := some 72) (v := ?_) (a' := ?_) #[true, true, true, true, true, true, true, true, true, true, true, true, true, true, true, true, true, true, true, true, true, true, true, true, true, false, false, false, false, false, false, false, false, false, false, false, false, false, false] rfl rfl (any_of HT_.out (by kernel_rfl)) (fun _ _ _ h => h) (Or.inl ⟨by rfl, ?_⟩) ?_ ?_
                                rotate_left
                                · intro w'
                                  go_simp
                                  with_reducible rfl
                                rotate_left
                                · simp only [Act.put, List.setIfInBounds_toArray, List.set_cons_zero, List.set_cons_succ, i64_w, i32_w]
                                  rfl
                                refine pure_ (i := 25) (N := some 73) (v := ?_) (a' := ?_) #[true, true, true, true, true, true, true, true, true, true, true, true, true, true, true, true, true, true, true, true, true, true, true, true, true, true, false, false, false, false, false, false, false, false, false, false, false, false, false] rfl rfl (any_of HT_.out (by kernel_rfl)) (fun _ _ _ h => h) (Or.inl ⟨by rfl, ?_⟩) ?_ ?_
                                rotate_left
                                · intro w'
                                  go_simp
                                  with_reducible rfl
                                rotate_left
                                · simp only [Act.put, List.setIfInBounds_toArray, List.set_cons_zero, List.set_cons_succ, i64_w, i32_w]
                                  rfl
                                refine pure_ (i := 27) (N := some 75) (v := ?_) (a' := ?_) #[true, true, true, true, true, true, true, true, true, true, true, true, true, true, true, true, true, true, true, true, true, true, true, true, true, true, false, true, false, false, false, false, false, false, false, false, false, false, false] rfl rfl (any_of HT_.out (by kernel_rfl)) (fun _ _ _ h => h) (Or.inl ⟨by rfl, ?_⟩) ?_ ?_
                                rotate_left
                                · intro w'
                                  go_simp
                                  with_reducible rfl
                                rotate_left
                                · simp only [Act.put, List.setIfInBounds_toArray, List.set_cons_zero, List.set_cons_succ, i64_w, i32_w]
                                  rfl
                                refine one_ (i := 26) (N := some 74) #[true, true, true, true, true, true, true, true, true, true, true, true, true, true, true, true, true, true, true, true, true, true, true, true, true, true, true, true, false, false, false, false, false, false, false, false, false, false, false] rfl rfl (one_of HT_.out (by kernel_rfl)) (by decide) (fun K hK => ?_)
                                refine goes_ Try.func29 (by kernel_rfl) rfl #[.slice (some ad428) t401.length co56] (by rfl) rfl rfl (by (try simp only [List.map_toArray, List.map_cons, List.map_nil]); first | done | rfl | (simp only [List.length_drop, List.length_take]; rfl)) ?_
                                with_reducible refine (remontoirlaw02_as.calls kj2 _ _ t401 t439 _ ?side1 ?side2 A34.out).mono ?_
                                (case side1 => repeat (first | exact (Kd.R_reads' HO403.out).2.2 | (with_reducible refine Kd.C_alloc ?_ _) | (with_reducible refine Kd.C_drewN ?_ _) | (with_reducible refine Kd.C_drew ?_)))
                                (case side2 => exact (Kd.R_reads' HO403.out).2.1)
                                rintro e w63 ⟨v440, rfl, ho0, hb⟩
                                have HS2_ := (hb.cell (World.block_lt_of_cell? _ _ (hHeld.2.2.1))).trans (hHeld.2.2.1)
                                have HS3_ := (hb.cell (World.block_lt_of_cell? _ _ (hHeld.2.2.2))).trans (hHeld.2.2.2)
                                refine ⟨_, rfl, ?_⟩
                                have n0_ := Aside0.mk (Kd.R_below (by (with_reducible repeat (first | apply Kd.R_alloc | apply Kd.R_drewN | apply Kd.R_drew)); exact HO403.out) hb)
                                have n1_ := Aside0.mk (Kd.R_below (by (with_reducible repeat (first | apply Kd.R_alloc | apply Kd.R_drewN | apply Kd.R_drew)); exact HO420.out) hb)
                                have n2_ := Aside0.mk (Kd.R_below (by (with_reducible repeat (first | apply Kd.R_alloc | apply Kd.R_drewN | apply Kd.R_drew)); exact HO423.out) hb)
                                have n3_ := Aside0.mk (Kd.R_below (by (with_reducible repeat (first | apply Kd.R_alloc | apply Kd.R_drewN | apply Kd.R_drew)); exact HO431.out) hb)
                                have n4_ := Aside0.mk (Kd.R_elder' (by (with_reducible repeat (first | apply Kd.R_alloc | apply Kd.R_drewN | apply Kd.R_drew)); exact HO434.out) (Kd.R_base ho0) hb)
                                have n5_ := Aside0.mk (Kd.R_elder' (by (with_reducible repeat (first | apply Kd.R_alloc | apply Kd.R_drewN | apply Kd.R_drew)); exact HO437.out) (Kd.R_base ho0) hb)
                                have n6_ := Aside0.mk (Kd.R_lower (Kd.R_new' (Kd.R_new' ho0 (Kd.R_lt (by (with_reducible repeat (first | apply Kd.R_alloc | apply Kd.R_drewN | apply Kd.R_drew)); exact HO434.out))) (Kd.R_lt (by (with_reducible repeat (first | apply Kd.R_alloc | apply Kd.R_drewN | apply Kd.R_drew)); exact HO437.out))) (below_size (by repeat (first | (with_reducible first | exact HB.out | apply below_alloc | apply pw_below_drewN | apply below_drew1 | refine below_set ?_ GE427.out) | exact HB.out))))
                                have n7_ := Aside0.mk (blk_below (g := gb427) (o := .cells #[.int .i64 t424, .int .i64 t425] 34 (0, 0)) (by (with_reducible repeat (first | refine blk_drewN ?_ _ | refine blk_drew ?_ | refine blk_alloc ?_ _)); exact BK427.out) hb)
                                have n8_ := Aside0.mk (below_step (by repeat (first | (with_reducible first | exact HB.out | apply below_alloc | apply pw_below_drewN | apply below_drew1 | refine below_set ?_ GE427.out) | exact HB.out)) hb)
                                clear HO403
                                clear HO420
                                clear HO423
                                clear HO431
                                clear HO434
                                clear HO437
                                clear BK427
                                clear HB
                                have HO403 := n0_
                                have HO420 := n1_
                                have HO423 := n2_
                                have HO431 := n3_
                                have HO434 := n4_
                                have HO437 := n5_
                                have HO441 := n6_
                                have BK427 := n7_
                                have HB := n8_
                                clear n0_ n1_ n2_ n3_ n4_ n5_ n6_ n7_ n8_
                                (try clear hb)
                                (try clear hb2)
                                (try clear hk)
                                (try clear hi)
                                (try clear ho0)
                                obtain ⟨Ao64, co64, eo64⟩ := Kd.R_slice HO423.out
                                (first | subst eo64 | (injection eo64 with f1_ f2_ f3_; have f4_ := f1_.symm; have f5_ := f3_.symm; clear f1_ f2_ f3_; subst f4_; subst f5_))
                                refine hK.out _ _ ⟨(blk_cell BK427.out 0).trans rfl, (blk_cell BK427.out 1).trans rfl, HS2_, HS3_⟩ (fun hHeld => ?_)
                                clear hK K
                                refine norm_ (a' := ?_) ?_ ?_
                                rotate_left
                                · show Act.put _ (some 74) _ = _
                                  simp only [Act.put, List.setIfInBounds_toArray, List.set_cons_zero, List.set_cons_succ, i64_w, i32_w]
                                  rfl
                                refine one_ (i := 28) (N := some 76) #[true, true, true, true, true, true, true, true, true, true, true, true, true, true, true, true, true, true, true, true, true, true, true, true, true, true, true, true, true, false, false, false, false, false, false, false, false, false, false] rfl rfl (one_of HT_.out (by kernel_rfl)) (by decide) (fun K hK => ?_)
                                refine goes_ Try.func29 (by kernel_rfl) rfl #[.slice Ao64 t421.length co64] (by rfl) rfl rfl (by (try simp only [List.map_toArray, List.map_cons, List.map_nil]); first | done | rfl | (simp only [List.length_drop, List.length_take]; rfl)) ?_
                                with_reducible refine (remontoirlaw02_as.calls kj2 _ _ t421 t442 _ ?side1 ?side2 A35.out).mono ?_
                                (case side1 => repeat (first | exact (Kd.R_reads' HO423.out).2.2 | (with_reducible refine Kd.C_alloc ?_ _) | (with_reducible refine Kd.C_drewN ?_ _) | (with_reducible refine Kd.C_drew ?_)))
                                (case side2 => exact (Kd.R_reads' HO423.out).2.1)
                                rintro e w65 ⟨v443, rfl, ho0, hb⟩
                                have HS2_ := (hb.cell (World.block_lt_of_cell? _ _ (hHeld.2.2.1))).trans (hHeld.2.2.1)
                                have HS3_ := (hb.cell (World.block_lt_of_cell? _ _ (hHeld.2.2.2))).trans (hHeld.2.2.2)
                                refine ⟨_, rfl, ?_⟩
                                have n0_ := Aside0.mk (Kd.R_below (by (with_reducible repeat (first | apply Kd.R_alloc | apply Kd.R_drewN | apply Kd.R_drew)); exact HO403.out) hb)
                                have n1_ := Aside0.mk (Kd.R_below (by (with_reducible repeat (first | apply Kd.R_alloc | apply Kd.R_drewN | apply Kd.R_drew)); exact HO420.out) hb)
                                have n2_ := Aside0.mk (Kd.R_below (by (with_reducible repeat (first | apply Kd.R_alloc | apply Kd.R_drewN | apply Kd.R_drew)); exact HO423.out) hb)
                                have n3_ := Aside0.mk (Kd.R_below (by (with_reducible repeat (first | apply Kd.R_alloc | apply Kd.R_drewN | apply Kd.R_drew)); exact HO431.out) hb)
                                have n4_ := Aside0.mk (Kd.R_elder' (by (with_reducible repeat (first | apply Kd.R_alloc | apply Kd.R_drewN | apply Kd.R_drew)); exact HO434.out) (Kd.R_base ho0) hb)
                                have n5_ := Aside0.mk (Kd.R_elder' (by (with_reducible repeat (first | apply Kd.R_alloc | apply Kd.R_drewN | apply Kd.R_drew)); exact HO437.out) (Kd.R_base ho0) hb)
                                have n6_ := Aside0.mk (Kd.R_elder' (by (with_reducible repeat (first | apply Kd.R_alloc | apply Kd.R_drewN | apply Kd.R_drew)); exact HO441.out) (Kd.R_base ho0) hb)
                                have n7_ := Aside0.mk (Kd.R_lower (Kd.R_new' (Kd.R_new' (Kd.R_new' ho0 (Kd.R_lt (by (with_reducible repeat (first | apply Kd.R_alloc | apply Kd.R_drewN | apply Kd.R_drew)); exact HO434.out))) (Kd.R_lt (by (with_reducible repeat (first | apply Kd.R_alloc | apply Kd.R_drewN | apply Kd.R_drew)); exact HO437.out))) (Kd.R_lt (by (with_reducible repeat (first | apply Kd.R_alloc | apply Kd.R_drewN | apply Kd.R_drew)); exact HO441.out))) (below_size (by repeat (first | (with_reducible first | exact HB.out | apply below_alloc | apply pw_below_drewN | apply below_drew1 | refine below_set ?_ GE427.out) | exact HB.out))))
                                have n8_ := Aside0.mk (blk_below (g := gb427) (o := .cells #[.int .i64 t424, .int .i64 t425] 34 (0, 0)) (by (with_reducible repeat (first | refine blk_drewN ?_ _ | refine blk_drew ?_ | refine blk_alloc ?_ _)); exact BK427.out) hb)
                                have n9_ := Aside0.mk (below_step (by repeat (first | (with_reducible first | exact HB.out | apply below_alloc | apply pw_below_drewN | apply below_drew1 | refine below_set ?_ GE427.out) | exact HB.out)) hb)
                                clear HO403
                                clear HO420
                                clear HO423
                                clear HO431
                                clear HO434
                                clear HO437
                                clear HO441
                                clear BK427
                                clear HB
                                have HO403 := n0_
                                have HO420 := n1_
                                have HO423 := n2_
                                have HO431 := n3_
                                have HO434 := n4_
                                have HO437 := n5_
                                have HO441 := n6_
                                have HO444 := n7_
                                have BK427 := n8_
                                have HB := n9_
                                clear n0_ n1_ n2_ n3_ n4_ n5_ n6_ n7_ n8_ n9_
                                (try clear hb)
                                (try clear hb2)
                                (try clear hk)
                                (try clear hi)
                                (try clear ho0)
                                obtain ⟨Ao66, co66, eo66⟩ := Kd.R_slice HO441.out
                                (first | subst eo66 | (injection eo66 with f1_ f2_ f3_; have f4_ := f1_.symm; have f5_ := f3_.symm; clear f1_ f2_ f3_; subst f4_; subst f5_))
                                obtain ⟨Ao67, co67, eo67⟩ := Kd.R_slice HO444.out
                                (first | subst eo67 | (injection eo67 with f1_ f2_ f3_; have f4_ := f1_.symm; have f5_ := f3_.symm; clear f1_ f2_ f3_; subst f4_; subst f5_))
                                refine hK.out _ _ ⟨(blk_cell BK427.out 0).trans rfl, (blk_cell BK427.out 1).trans rfl, HS2_, HS3_⟩ (fun hHeld => ?_)
                                clear hK K
                                refine norm_ (a' := ?_) ?_ ?_
                                rotate_left
                                · show Act.put _ (some 76) _ = _
                                  simp only [Act.put, List.setIfInBounds_toArray, List.set_cons_zero, List.set_cons_succ, i64_w, i32_w]
                                  rfl
                                refine one_ (i := 29) (N := some 77) #[true, true, true, true, true, true, true, true, true, true, true, true, true, true, true, true, true, true, true, true, true, true, true, true, true, true, true, true, true, true, false, false, false, false, false, false, false, false, false] rfl rfl (one_of HT_.out (by kernel_rfl)) (by decide) (fun K hK => ?_)
                                refine goes_ Try.func34 (by kernel_rfl) rfl #[.slice Ao66 t439.length co66, .slice Ao67 t442.length co67] (by rfl) rfl rfl (by (try simp only [List.map_toArray, List.map_cons, List.map_nil]); first | done | rfl | (simp only [List.length_drop, List.length_take]; rfl)) ?_
                                with_reducible refine (remontoirref02_Same.calls kj2 _ _ t439 _ _ t442 true _ ?side1 ?side2 ?side3 ?side4 A36.out).mono ?_
                                (case side1 => repeat (first | exact (Kd.R_reads' HO441.out).2.2 | (with_reducible refine Kd.C_alloc ?_ _) | (with_reducible refine Kd.C_drewN ?_ _) | (with_reducible refine Kd.C_drew ?_)))
                                (case side2 => exact (Kd.R_reads' HO441.out).2.1)
                                (case side3 => repeat (first | exact (Kd.R_reads' HO444.out).2.2 | (with_reducible refine Kd.C_alloc ?_ _) | (with_reducible refine Kd.C_drewN ?_ _) | (with_reducible refine Kd.C_drew ?_)))
                                (case side4 => exact (Kd.R_reads' HO444.out).2.1)
                                rintro e w' ⟨rfl, ⟨nd, rfl⟩⟩
                                refine ⟨_, rfl, ?_⟩
                                refine hK.out _ _ ⟨(blk_cell BK427.out 0).trans rfl, (blk_cell BK427.out 1).trans rfl, hHeld.2.2.1, hHeld.2.2.2⟩ (fun hHeld => ?_)
                                clear hK K
                                refine norm_ (a' := ?_) ?_ ?_
                                rotate_left
                                · show Act.put _ (some 77) _ = _
                                  simp only [Act.put, List.setIfInBounds_toArray, List.set_cons_zero, List.set_cons_succ, i64_w, i32_w]
                                  rfl
                                refine pure_ (i := 30) (N := some 78) (v := ?_) (a' := ?_) #[true, true, true, true, true, true, true, true, true, true, true, true, true, true, true, true, true, true, true, true, true, true, true, true, true, true, true, true, true, true, true, false, false, false, false, false, false, false, false] rfl rfl (any_of HT_.out (by kernel_rfl)) (fun _ _ _ h => h) (Or.inl ⟨by rfl, ?_⟩) ?_ ?_
                                rotate_left
                                · intro w'
                                  go_simp
                                  with_reducible rfl
                                rotate_left
                                · simp only [Act.put, List.setIfInBounds_toArray, List.set_cons_zero, List.set_cons_succ, i64_w, i32_w]
                                  rfl
                                refine pure_ (i := 31) (N := some 79) (v := ?_) (a' := ?_) #[true, true, true, true, true, true, true, true, true, true, true, true, true, true, true, true, true, true, true, true, true, true, true, true, true, true, true, true, true, true, true, true, false, false, false, false, false, false, false] rfl rfl (any_of HT_.out (by kernel_rfl)) (fun _ _ _ h => h) (Or.inl ⟨by rfl, ?_⟩) ?_ ?_
                                rotate_left
                                · intro w'
                                  go_simp
                                  with_reducible rfl
                                rotate_left
                                · simp only [Act.put, List.setIfInBounds_toArray, List.set_cons_zero, List.set_cons_succ, i64_w, i32_w]
                                  rfl
                                refine pure_ (i := 32) (N := some 80) (v := ?_) (a' := ?_) #[true, true, true, true, true, true, true, true, true, true, true, true, true, true, true, true, true, true, true, true, true, true, true, true, true, true, true, true, true, true, true, true, true, false, false, false, false, false, false] rfl rfl (any_of HT_.out (by kernel_rfl)) (fun _ _ _ h => h) (Or.inl ⟨by rfl, ?_⟩) ?_ ?_
                                rotate_left
                                · intro w'
                                  go_simp
                                  with_reducible rfl
                                rotate_left
                                · simp only [Act.put, List.setIfInBounds_toArray, List.set_cons_zero, List.set_cons_succ, i64_w, i32_w]
                                  rfl
                                refine one_ (i := 33) (N := some 81) #[true, true, true, true, true, true, true, true, true, true, true, true, true, true, true, true, true, true, true, true, true, true, true, true, true, true, true, true, true, true, true, true, true, true, false, false, false, false, false] rfl rfl (one_of HT_.out (by kernel_rfl)) (by decide) (fun K hK => ?_)
                                refine goes_ Try.func27 (by kernel_rfl) rfl #[.slice (some ad428) t401.length co56] (by rfl) rfl rfl (by (try simp only [List.map_toArray, List.map_cons, List.map_nil]); first | done | rfl | (simp only [List.length_drop, List.length_take]; rfl)) ?_
                                with_reducible refine (heap_Right.calls kj2 _ _ t401 true _ ?side1 ?side2 A38.out).mono ?_
                                (case side1 => repeat (first | exact (Kd.R_reads' HO403.out).2.2 | (with_reducible refine Kd.C_alloc ?_ _) | (with_reducible refine Kd.C_drewN ?_ _) | (with_reducible refine Kd.C_drew ?_)))
                                (case side2 => exact (Kd.R_reads' HO403.out).2.1)
                                rintro e w68 ⟨rfl, hb⟩
                                have HS2_ := (hb.cell (World.block_lt_of_cell? _ _ (hHeld.2.2.1))).trans (hHeld.2.2.1)
                                have HS3_ := (hb.cell (World.block_lt_of_cell? _ _ (hHeld.2.2.2))).trans (hHeld.2.2.2)
                                refine ⟨_, rfl, ?_⟩
                                have n0_ := Aside0.mk (Kd.R_below (by (with_reducible repeat (first | apply Kd.R_alloc | apply Kd.R_drewN | apply Kd.R_drew)); exact HO403.out) hb)
                                have n1_ := Aside0.mk (Kd.R_below (by (with_reducible repeat (first | apply Kd.R_alloc | apply Kd.R_drewN | apply Kd.R_drew)); exact HO420.out) hb)
                                have n2_ := Aside0.mk (Kd.R_below (by (with_reducible repeat (first | apply Kd.R_alloc | apply Kd.R_drewN | apply Kd.R_drew)); exact HO423.out) hb)
                                have n3_ := Aside0.mk (Kd.R_below (by (with_reducible repeat (first | apply Kd.R_alloc | apply Kd.R_drewN | apply Kd.R_drew)); exact HO431.out) hb)
                                have n4_ := Aside0.mk (Kd.R_below (by (with_reducible repeat (first | apply Kd.R_alloc | apply Kd.R_drewN | apply Kd.R_drew)); exact HO434.out) hb)
                                have n5_ := Aside0.mk (Kd.R_below (by (with_reducible repeat (first | apply Kd.R_alloc | apply Kd.R_drewN | apply Kd.R_drew)); exact HO437.out) hb)
                                have n6_ := Aside0.mk (Kd.R_below (by (with_reducible repeat (first | apply Kd.R_alloc | apply Kd.R_drewN | apply Kd.R_drew)); exact HO441.out) hb)
                                have n7_ := Aside0.mk (Kd.R_below (by (with_reducible repeat (first | apply Kd.R_alloc | apply Kd.R_drewN | apply Kd.R_drew)); exact HO444.out) hb)
                                have n8_ := Aside0.mk (blk_below (g := gb427) (o := .cells #[.int .i64 t424, .int .i64 t425] 34 (0, 0)) (by (with_reducible repeat (first | refine blk_drewN ?_ _ | refine blk_drew ?_ | refine blk_alloc ?_ _)); exact BK427.out) hb)
                                have n9_ := Aside0.mk (below_step (by repeat (first | (with_reducible first | exact HB.out | apply below_alloc | apply pw_below_drewN | apply below_drew1 | refine below_set ?_ GE427.out) | exact HB.out)) hb)
                                clear HO403
                                clear HO420
                                clear HO423
                                clear HO431
                                clear HO434
                                clear HO437
                                clear HO441
                                clear HO444
                                clear BK427
                                clear HB
                                have HO403 := n0_
                                have HO420 := n1_
                                have HO423 := n2_
                                have HO431 := n3_
                                have HO434 := n4_
                                have HO437 := n5_
                                have HO441 := n6_
                                have HO444 := n7_
                                have BK427 := n8_
                                have HB := n9_
                                clear n0_ n1_ n2_ n3_ n4_ n5_ n6_ n7_ n8_ n9_
                                (try clear hb)
                                (try clear hb2)
                                (try clear hk)
                                (try clear hi)
                                refine hK.out _ _ ⟨(blk_cell BK427.out 0).trans rfl, (blk_cell BK427.out 1).trans rfl, HS2_, HS3_⟩ (fun hHeld => ?_)
                                clear hK K
                                refine norm_ (a' := ?_) ?_ ?_
                                rotate_left
                                · show Act.put _ (some 81) _ = _
                                  simp only [Act.put, List.setIfInBounds_toArray, List.set_cons_zero, List.set_cons_succ, i64_w, i32_w]
                                  rfl
                                refine pure_ (i := 34) (N := some 82) (v := ?_) (a' := ?_) #[true, true, true, true, true, true, true, true, true, true, true, true, true, true, true, true, true, true, true, true, true, true, true, true, true, true, true, true, true, true, true, true, true, true, true, false, false, false, false] rfl rfl (any_of HT_.out (by kernel_rfl)) (fun _ _ _ h => h) (Or.inl ⟨by rfl, ?_⟩) ?_ ?_
                                rotate_left
                                · intro w'
                                  go_simp
                                  with_reducible rfl
                                rotate_left
                                · simp only [Act.put, List.setIfInBounds_toArray, List.set_cons_zero, List.set_cons_succ, i64_w, i32_w]
                                  rfl
                                refine pure_ (i := 35) (N := some 83) (v := ?_) (a' := ?_) #[true, true, true, true, true, true, true, true, true, true, true, true, true, true, true, true, true, true, true, true, true, true, true, true, true, true, true, true, true, true, true, true, true, true, true, true, false, false, false] rfl rfl (any_of HT_.out (by kernel_rfl)) (fun _ _ _ h => h) (Or.inl ⟨by rfl, ?_⟩) ?_ ?_
                                rotate_left
                                · intro w'
                                  go_simp
                                  with_reducible rfl
                                rotate_left
                                · simp only [Act.put, List.setIfInBounds_toArray, List.set_cons_zero, List.set_cons_succ, i64_w, i32_w]
                                  rfl
                                refine one_ (i := 36) (N := some 84) #[true, true, true, true, true, true, true, true, true, true, true, true, true, true, true, true, true, true, true, true, true, true, true, true, true, true, true, true, true, true, true, true, true, true, true, true, true, false, false] rfl rfl (one_of HT_.out (by kernel_rfl)) (by decide) (fun K hK => ?_)
                                refine goes_ Try.func24 (by kernel_rfl) rfl #[] (by rfl) rfl rfl (by (try simp only [List.map_toArray, List.map_cons, List.map_nil]); first | done | rfl | (simp only [List.length_drop, List.length_take]; rfl)) ?_
                                with_reducible refine (remontoirlaw02_knows.calls kj2  t447 _ A40.out).mono ?_
                                rintro e w69 ⟨rfl, hb⟩
                                have HS2_ := (hb.cell (World.block_lt_of_cell? _ _ (hHeld.2.2.1))).trans (hHeld.2.2.1)
                                have HS3_ := (hb.cell (World.block_lt_of_cell? _ _ (hHeld.2.2.2))).trans (hHeld.2.2.2)
                                refine ⟨_, rfl, ?_⟩
                                have n0_ := Aside0.mk (Kd.R_below (by (with_reducible repeat (first | apply Kd.R_alloc | apply Kd.R_drewN | apply Kd.R_drew)); exact HO403.out) hb)
                                have n1_ := Aside0.mk (Kd.R_below (by (with_reducible repeat (first | apply Kd.R_alloc | apply Kd.R_drewN | apply Kd.R_drew)); exact HO420.out) hb)
                                have n2_ := Aside0.mk (Kd.R_below (by (with_reducible repeat (first | apply Kd.R_alloc | apply Kd.R_drewN | apply Kd.R_drew)); exact HO423.out) hb)
                                have n3_ := Aside0.mk (Kd.R_below (by (with_reducible repeat (first | apply Kd.R_alloc | apply Kd.R_drewN | apply Kd.R_drew)); exact HO431.out) hb)
                                have n4_ := Aside0.mk (Kd.R_below (by (with_reducible repeat (first | apply Kd.R_alloc | apply Kd.R_drewN | apply Kd.R_drew)); exact HO434.out) hb)
                                have n5_ := Aside0.mk (Kd.R_below (by (with_reducible repeat (first | apply Kd.R_alloc | apply Kd.R_drewN | apply Kd.R_drew)); exact HO437.out) hb)
                                have n6_ := Aside0.mk (Kd.R_below (by (with_reducible repeat (first | apply Kd.R_alloc | apply Kd.R_drewN | apply Kd.R_drew)); exact HO441.out) hb)
                                have n7_ := Aside0.mk (Kd.R_below (by (with_reducible repeat (first | apply Kd.R_alloc | apply Kd.R_drewN | apply Kd.R_drew)); exact HO444.out) hb)
                                have n8_ := Aside0.mk (blk_below (g := gb427) (o := .cells #[.int .i64 t424, .int .i64 t425] 34 (0, 0)) (by (with_reducible repeat (first | refine blk_drewN ?_ _ | refine blk_drew ?_ | refine blk_alloc ?_ _)); exact BK427.out) hb)
                                have n9_ := Aside0.mk (below_step (by repeat (first | (with_reducible first | exact HB.out | apply below_alloc | apply pw_below_drewN | apply below_drew1 | refine below_set ?_ GE427.out) | exact HB.out)) hb)
                                clear HO403
                                clear HO420
                                clear HO423
                                clear HO431
                                clear HO434
                                clear HO437
                                clear HO441
                                clear HO444
                                clear BK427
                                clear HB
                                have HO403 := n0_
                                have HO420 := n1_
                                have HO423 := n2_
                                have HO431 := n3_
                                have HO434 := n4_
                                have HO437 := n5_
                                have HO441 := n6_
                                have HO444 := n7_
                                have BK427 := n8_
                                have HB := n9_
                                clear n0_ n1_ n2_ n3_ n4_ n5_ n6_ n7_ n8_ n9_
                                (try clear hb)
                                (try clear hb2)
                                (try clear hk)
                                (try clear hi)
                                refine hK.out _ _ ⟨(blk_cell BK427.out 0).trans rfl, (blk_cell BK427.out 1).trans rfl, HS2_, HS3_⟩ (fun hHeld => ?_)
                                clear hK K
                                refine norm_ (a' := ?_) ?_ ?_
                                rotate_left
                                · show Act.put _ (some 84) _ = _
                                  simp only [Act.put, List.setIfInBounds_toArray, List.set_cons_zero, List.set_cons_succ, i64_w, i32_w]
                                  rfl
                                refine pure_ (i := 37) (N := some 85) (v := ?_) (a' := ?_) #[true, true, true, true, true, true, true, true, true, true, true, true, true, true, true, true, true, true, true, true, true, true, true, true, true, true, true, true, true, true, true, true, true, true, true, true, true, true, false] rfl rfl (any_of HT_.out (by kernel_rfl)) (fun _ _ _ h => h) (Or.inl ⟨by rfl, ?_⟩) ?_ ?_
                                rotate_left
                                · intro w'
                                  go_simp
                                  with_reducible rfl
                                rotate_left
                                · simp only [Act.put, List.setIfInBounds_toArray, List.set_cons_zero, List.set_cons_succ, i64_w, i32_w]
                                  rfl
                                refine pure_ (i := 38) (N := some 4) (v := ?_) (a' := ?_) #[true, true, true, true, true, true, true, true, true, true, true, true, true, true, true, true, true, true, true, true, true, true, true, true, true, true, true, true, true, true, true, true, true, true, true, true, true, true, true] rfl rfl (any_of HT_.out (by kernel_rfl)) (fun _ _ _ h => h) (Or.inl ⟨by rfl, ?_⟩) ?_ ?_
                                rotate_left
                                · intro w'
                                  go_simp
                                  with_reducible rfl
                                rotate_left
                                · simp only [Act.put, List.setIfInBounds_toArray, List.set_cons_zero, List.set_cons_succ, i64_w, i32_w]
                                  rfl
                                refine done_ (done_of HT_.out (by kernel_rfl)) ?_
                                try go_wp2
                                go_ret
                                exact ⟨by first | rfl | (rw [HR_.out] <;> rfl) | (simp [errW_none, errW_some] <;> rfl) | (simp only [← hji16]; first | rfl | (simp [errW_none, errW_some] <;> rfl)) | (simp [*, errW_none, errW_some] <;> rfl), by repeat (first | (with_reducible first | exact HB.out | apply below_alloc | apply pw_below_drewN | apply below_drew1 | refine below_set ?_ GE427.out) | exact HB.out)⟩
                              · replace c39 := Bool.eq_false_iff.mpr c39
                                subst c39
                                have H1 : (some false) = some true := by rw [if_neg (show ¬ (false = true) by decide)] at H; exact H
                                clear H
                                have H := H1
                                clear H1
                                exact absurd H (by simp)
                            · replace c37 := Bool.eq_false_iff.mpr c37
                              subst c37
                              have H1 : (some false) = some true := by rw [if_neg (show ¬ (false = true) by decide)] at H; exact H
                              clear H
                              have H := H1
                              clear H1
                              exact absurd H (by simp)
                          · replace c33 := Bool.eq_false_iff.mpr c33
                            subst c33
                            have H1 : (some false) = some true := by rw [if_neg (show ¬ (false = true) by decide)] at H; exact H
                            clear H
                            have H := H1
                            clear H1
                            exact absurd H (by simp)
                        · rw [if_neg c28] at H
                          have c28b0 : (t426 == 0) = false := beq_eq_false_iff_ne.mpr c28
                          have c28b1 : (t426 != 0) = true := bne_iff_ne.mpr c28
                          exact absurd H (by simp)
                      · rw [if_neg c27] at H
                        have c27b0 : (((rd_T34 t401 0).f0) == t424 && (((rd_T34 t401 0).f1) == t425)) = false := by simpa using c27
                        (try (have c27b1 : decide (((rd_T34 t401 0).f0) = t424 && (((rd_T34 t401 0).f1) == t425)) = false := by simpa using c27))
                        (try (have c27b2 : (((rd_T34 t401 0).f0) == t424 && (((rd_T34 t401 0).f1) == t425)) = false := by simpa using c27))
                        (try (have c27b3 : ¬ (((rd_T34 t401 0).f0) = t424 && (((rd_T34 t401 0).f1) == t425)) := by simpa using c27))
                        clear c27
                        exact absurd H (by simp)
                    · rw [if_neg c26] at H
                      exact absurd H (by simp)
                  · rw [if_neg c25] at H
                    have c25b0 : ((t401.length : Int) == (l0.length : Int)) = false := beq_eq_false_iff_ne.mpr c25
                    have c25b1 : ((t401.length : Int) != (l0.length : Int)) = true := bne_iff_ne.mpr c25
                    have c25b2 : (t401.length == l0.length) = false := by first | simpa using c25 | (simp at c25 ⊢; omega)
                    exact absurd H (by simp)
                · rw [if_neg c22] at H
                  exact absurd H (by simp)
              · rw [if_neg c19] at H
                exact absurd H (by simp)
            · rw [if_neg c18] at H
              exact absurd H (by simp)
          · rw [if_neg c17] at H
            exact absurd H (by simp)

/-- The statement of remontoirlaw02_HeapAgain over plain data. -/
def remontoirlaw02_HeapAgain.Pure : Prop := ∀ (l0 : List (S34)) (a1 : Int), (l0.length ≤ 9223372036854775807 ∧ ∀ x ∈ l0, ((Lit.int .i64 x.f0).wf = true ∧ (Lit.int .i64 x.f1).wf = true)) → (Lit.int .u8 a1).wf = true → ∃ k, remontoirlaw02_HeapAgain.f k l0 a1 = some true

end Go.Proofs.Ytdfokaldjfpkhaa.FHeap
