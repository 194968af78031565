-- Written by the session (wip/tools) for this claim: functions of the program as Lean functions, and their contracts.
import Derived.Test.YtdfokaldjfpkhaaFSpanx0
import Derived.Test.YtdfokaldjfpkhaaFSpanx2
import Derived.Test.YtdfokaldjfpkhaaFSpanx4
import Derived.Test.YtdfokaldjfpkhaaFSpanx5
import Derived.Test.YtdfokaldjfpkhaaFSpanx7
import Derived.Test.YtdfokaldjfpkhaaFSpanx10
namespace Go.Proofs.Ytdfokaldjfpkhaa.FSpan
open Go.RowKit Go.Proofs.YtdfokaldjfpkhaaW.PrintWords Go.Proofs.YtdfokaldjfpkhaaW.PrintLast Go.Proofs.YtdfokaldjfpkhaaW.PrintMore
attribute [local go_sem] max2_int min2_int max_two min_two max_three min_three max_four min_four   -- for this text's walks alone
set_option linter.unusedVariables false
set_option linter.unusedSimpArgs false

/-! ### remontoirlaw04_SpanAgain: function 10 -/
def remontoirlaw04_SpanAgain.j0 : Nat → List (S29) → Int → Bool → Option (Bool)
  | 0, _, _, _ => none
  | k + 1, x0, x1, x15 => if x15 = true then (if 0 ≤ (x0.length : Int) then ((span_Norm.f k (x0.take 0)).bind fun t296 => (if (t296.length : Int) = 0 then ((remontoirlaw04_knows.f k).bind fun t299 => (some t299)) else (some false))) else (none)) else (if (x0.length : Int) = 0 then (none) else ((span_Norm.f k x0).bind fun t300 => ((some (([] : List (S29)) : List (S29))).bind fun y303 => (if 0 ≤ (Int.tmod (wrap64 (x1)) (x0.length : Int)) then (if (Int.tmod (wrap64 (x1)) (x0.length : Int)) ≤ (x0.length : Int) then ((some (x0.drop ((Int.tmod (wrap64 (x1)) (x0.length : Int)) : Int).toNat : List (S29))).bind fun y306 => (if y303.length + y306.length < 8796093022208 then ((some (y303 ++ y306 : List (S29))).bind fun y310 => ((some (x0.take ((Int.tmod (wrap64 (x1)) (x0.length : Int)) : Int).toNat : List (S29))).bind fun y313 => (if y310.length + y313.length < 8796093022208 then ((span_Norm.f k (y310 ++ y313)).bind fun t320 => (if (Int.tmod (wrap64 (x1)) (x0.length : Int)) < (x0.length : Int) then ((span_Without.f k x0 ((rd_T29 x0 (Int.tmod (wrap64 (x1)) (x0.length : Int))).f0) ((rd_T29 x0 (Int.tmod (wrap64 (x1)) (x0.length : Int))).f1)).bind fun t324 => ((some (([(⟨(rd_T29 x0 (Int.tmod (wrap64 (x1)) (x0.length : Int))).f0, (rd_T29 x0 (Int.tmod (wrap64 (x1)) (x0.length : Int))).f1⟩ : S29)] : List (S29)) : List (S29))).bind fun y328 => (if t324.length + y328.length < 8796093022208 then ((span_Norm.f k (t324 ++ y328)).bind fun t334 => ((span_Norm.f k t300).bind fun t337 => ((remontoirref04_Same.f k t337 t300).bind fun t340 => (if t340 = true then ((remontoirref04_Same.f k t300 t320).bind fun t341 => (if t341 = true then ((remontoirref04_Same.f k t334 t300).bind fun t342 => (if t342 = true then ((remontoirlaw04_knows.f k).bind fun t343 => (some t343)) else (some false))) else (some false))) else (some false))))) else (none)))) else (none))) else (none)))) else (none))) else (none)) else (none)))))
def remontoirlaw04_SpanAgain.f (k : Nat) (l0 : List (S29)) (a1 : Int) : Option (Bool) := (remontoirlaw04_great.f l0).bind fun t291 => (if t291 = true then (remontoirlaw04_SpanAgain.j0 k l0 a1 true) else (remontoirlaw04_SpanAgain.j0 k l0 a1 ((l0.length : Int) == 0)))
theorem remontoirlaw04_SpanAgain.mono_l : ∀ k, (∀ y0 y1 y2, LeO (remontoirlaw04_SpanAgain.j0 k y0 y1 y2) (remontoirlaw04_SpanAgain.j0 (k + 1) y0 y1 y2))
  | 0 => fun _ _ _ r h => by simp [remontoirlaw04_SpanAgain.j0] at h
  | k + 1 => by
    have ih0 := remontoirlaw04_SpanAgain.mono_l k
    · intro y0 y1 y2
      unfold remontoirlaw04_SpanAgain.j0
      repeat' first
      | (with_reducible exact ih0 _ _ _)
      | (with_reducible exact remontoirlaw04_knows.mono _)
      | (with_reducible exact remontoirref04_Same.mono _ _ _)
      | (with_reducible exact span_Norm.mono _ _)
      | (with_reducible exact span_Without.mono _ _ _ _)
      | (with_reducible exact LeO.refl _)
      | (with_reducible exact LeO.none _)
      | (with_reducible refine LeO.ite ?_ ?_)
      | (with_reducible refine LeO.bind ?_ (fun _ => ?_))
      | exact ih0 _ _ _
      | exact remontoirlaw04_knows.mono _
      | exact remontoirref04_Same.mono _ _ _
      | exact span_Norm.mono _ _
      | exact span_Without.mono _ _ _ _
      | exact LeO.none _
      | refine LeO.ite ?_ ?_
      | refine LeO.bind ?_ (fun _ => ?_)
theorem remontoirlaw04_SpanAgain.mono : ∀ a0 a1 k, LeO (remontoirlaw04_SpanAgain.f k a0 a1) (remontoirlaw04_SpanAgain.f (k + 1) a0 a1) := by
  intro a0 a1 k
  have ih0 := remontoirlaw04_SpanAgain.mono_l k
  unfold remontoirlaw04_SpanAgain.f
  repeat' first
      | (with_reducible exact ih0 _ _ _)
      | (with_reducible exact remontoirlaw04_knows.mono _)
      | (with_reducible exact remontoirref04_Same.mono _ _ _)
      | (with_reducible exact span_Norm.mono _ _)
      | (with_reducible exact span_Without.mono _ _ _ _)
      | (with_reducible exact LeO.refl _)
      | (with_reducible exact LeO.none _)
      | (with_reducible refine LeO.ite ?_ ?_)
      | (with_reducible refine LeO.bind ?_ (fun _ => ?_))
      | exact ih0 _ _ _
      | exact remontoirlaw04_knows.mono _
      | exact remontoirref04_Same.mono _ _ _
      | exact span_Norm.mono _ _
      | exact span_Without.mono _ _ _ _
      | exact LeO.none _
      | refine LeO.ite ?_ ?_
      | refine LeO.bind ?_ (fun _ => ?_)
def remontoirlaw04_SpanAgain.T5 : Bool × List (List Nat × List Nat) := (true, [([], []), ([], []), ([], []), ([1, 2], [1, 2]), ([0, 3], [0, 3]), ([], []), ([], []), ([5, 6], [5, 6]), ([4, 7, 4], [4, 7]), ([8, 8], [8]), ([9, 9, 0, 1, 2, 3, 4, 5, 6, 7, 8, 9], [9])])
def remontoirlaw04_SpanAgain.B5 : List Nat := [0, 0, 0, 6, 15, 0, 0, 96, 255, 511, 1023]
theorem remontoirlaw04_SpanAgain.tab5 : rtab .any (opsOf Try.f10 5) = remontoirlaw04_SpanAgain.T5 := by kernel_rfl
theorem remontoirlaw04_SpanAgain.bits5 : waitsOk remontoirlaw04_SpanAgain.T5.2 remontoirlaw04_SpanAgain.B5 = true := by kernel_rfl
def remontoirlaw04_SpanAgain.T6 : Bool × List (List Nat × List Nat) := (true, [([], []), ([], []), ([], []), ([1, 2], [1, 2]), ([3], [3]), ([0, 4], [0, 4]), ([], []), ([], []), ([6, 7], [6, 7]), ([8], [8]), ([9], [9]), ([5, 10, 5], [5, 10]), ([11, 11], [11]), ([12, 12, 0, 1, 2, 3, 4, 5, 6, 7, 8, 9, 10, 11, 12], [12])])
def remontoirlaw04_SpanAgain.B6 : List Nat := [0, 0, 0, 6, 14, 31, 0, 0, 192, 448, 960, 2047, 4095, 8191]
theorem remontoirlaw04_SpanAgain.tab6 : rtab .any (opsOf Try.f10 6) = remontoirlaw04_SpanAgain.T6 := by kernel_rfl
theorem remontoirlaw04_SpanAgain.bits6 : waitsOk remontoirlaw04_SpanAgain.T6.2 remontoirlaw04_SpanAgain.B6 = true := by kernel_rfl
set_option maxHeartbeats 8000000 in
set_option maxRecDepth 100000 in
theorem remontoirlaw04_SpanAgain.calls (k : Nat) (A0 : Option Addr) (c0 : Nat) (l0 : List (S29)) (a1 : Int) (w : World) (hr0 : Kd.C k29 w A0 l0.length l0) (hc0 : l0.length ≤ c0) (h : remontoirlaw04_SpanAgain.f k l0 a1 = some true) :
    Calls Try.prog 10 #[.slice A0 l0.length c0, .int .u8 a1] w fun e w' => e = .returned (.bool true) ∧ Below w.heap.size w w' := by
  have hu29 := Try.underlying29
  have HR0 := Aside0.mk hr0
  have HC0 := Aside0.mk hc0
  clear hr0 hc0
  have HB := Aside0.mk (Below.refl w.heap.size w)
  have H : ((remontoirlaw04_great.f l0).bind fun t291 => (if t291 = true then (remontoirlaw04_SpanAgain.j0 k l0 a1 true) else (remontoirlaw04_SpanAgain.j0 k l0 a1 ((l0.length : Int) == 0)))) = some true := h
  clear h
  have HC3 := Aside0.mk H
  clear H
  go_enter Try.func10, Try.ntmps10
  go_upto_region 1 with (fail)
  go_cut [15] (fun v15 wc => ∃ (kq : Nat) (x15_2 : Bool), v15 = .bool x15_2 ∧ Aside0 (remontoirlaw04_SpanAgain.j0 kq l0 a1 x15_2 = some true) ∧ Aside0 (kq ≤ k) ∧ Aside0 (Below w.heap.size w wc))
  case first =>
    have H := HC3.out
    clear HC3
    replace H := Option.bind_eq_some_iff.mp H
    obtain ⟨t291, A40, H⟩ := H
    replace H : (if t291 = true then (remontoirlaw04_SpanAgain.j0 k l0 a1 true) else (remontoirlaw04_SpanAgain.j0 k l0 a1 ((l0.length : Int) == 0))) = some true := H
    have A4 := Aside0.mk A40
    clear A40
    by_cases c5 : t291 = true
    · subst c5
      have H1 : (remontoirlaw04_SpanAgain.j0 k l0 a1 true) = some true := by rw [if_pos rfl] at H; exact H
      clear H
      have H := H1
      clear H1
      have H' := Aside0.mk H
      clear H
      go_wp2_with (first | ((with_reducible refine gate_callee (f := 13) rfl ?_); refine goesL_ (some 10) rfl rfl Try.func13 (by kernel_rfl) rfl #[.slice A0 l0.length c0] rfl (by (try simp only [List.map_toArray, List.map_cons, List.map_nil]); first | done | rfl | (simp only [List.length_drop, List.length_take]; rfl)) ?_; (with_reducible refine (remontoirlaw04_great.calls _ _ l0 true _ ?side1 ?side2 A4.out).mono ?_); (case side1 => repeat (first | exact (Kd.C_below HR0.out HB.out) | (with_reducible refine Kd.C_alloc ?_ _) | (with_reducible refine Kd.C_drewN ?_ _) | (with_reducible refine Kd.C_drew ?_))); (case side2 => exact HC0.out); rintro e w' ⟨rfl, ⟨nd, rfl⟩⟩; refine ⟨_, rfl, ?_⟩))
      go_meet
      case rel => exact ⟨_, (true), (by first | rfl | (simp; done) | (simp [*]; done)), H', ⟨by first | omega | exact Nat.le_refl _⟩, ⟨by repeat (first | (with_reducible first | exact HB.out | apply below_alloc | apply pw_below_drewN | apply below_drew1) | exact HB.out)⟩⟩
    · replace c5 := Bool.eq_false_iff.mpr c5
      subst c5
      have H1 : (remontoirlaw04_SpanAgain.j0 k l0 a1 ((l0.length : Int) == 0)) = some true := by rw [if_neg (show ¬ (false = true) by decide)] at H; exact H
      clear H
      have H := H1
      clear H1
      have H' := Aside0.mk H
      clear H
      go_wp2_with (first | ((with_reducible refine gate_callee (f := 13) rfl ?_); refine goesL_ (some 10) rfl rfl Try.func13 (by kernel_rfl) rfl #[.slice A0 l0.length c0] rfl (by (try simp only [List.map_toArray, List.map_cons, List.map_nil]); first | done | rfl | (simp only [List.length_drop, List.length_take]; rfl)) ?_; (with_reducible refine (remontoirlaw04_great.calls _ _ l0 false _ ?side1 ?side2 A4.out).mono ?_); (case side1 => repeat (first | exact (Kd.C_below HR0.out HB.out) | (with_reducible refine Kd.C_alloc ?_ _) | (with_reducible refine Kd.C_drewN ?_ _) | (with_reducible refine Kd.C_drew ?_))); (case side2 => exact HC0.out); rintro e w' ⟨rfl, ⟨nd, rfl⟩⟩; refine ⟨_, rfl, ?_⟩))
      go_meet
      case rel => exact ⟨_, (((l0.length : Int) == 0)), (by first | rfl | (simp; done) | (simp [*]; done)), H', ⟨by first | omega | exact Nat.le_refl _⟩, ⟨by repeat (first | (with_reducible first | exact HB.out | apply below_alloc | apply pw_below_drewN | apply below_drew1) | exact HB.out)⟩⟩
  case rest =>
    clear HC3
    try clear c1
    try clear p2
    try clear c5
    obtain ⟨kq, x15_2, rfl, HA, HJ2, HB⟩ := hcut
    cases kq with
    | zero => exact absurd HA.out (by simp [remontoirlaw04_SpanAgain.j0])
    | succ kj2 =>
      have H := HA.out
      clear HA
      simp only [remontoirlaw04_SpanAgain.j0] at H
      by_cases c6 : x15_2 = true
      · subst c6
        have H1 : (if 0 ≤ (l0.length : Int) then ((span_Norm.f kj2 (l0.take 0)).bind fun t296 => (if (t296.length : Int) = 0 then ((remontoirlaw04_knows.f kj2).bind fun t299 => (some t299)) else (some false))) else (none)) = some true := by rw [if_pos rfl] at H; exact H
        clear H
        have H := H1
        clear H1
        by_cases c7 : 0 ≤ (l0.length : Int)
        · rw [if_pos c7] at H
          have c7b0 := eq_true c7
          have c7b1 : decide (0 ≤ (l0.length : Int)) = true := decide_eq_true c7
          clear c7
          obtain ⟨y292, hy292⟩ : ∃ y_ : List (S29), y_ = (l0.take 0) := ⟨_, rfl⟩
          replace H : ((span_Norm.f kj2 y292).bind fun t296 => (if (t296.length : Int) = 0 then ((remontoirlaw04_knows.f kj2).bind fun t299 => (some t299)) else (some false))) = some true := by first | (rw [hy292]; with_reducible exact H) | (have H2_ := (Option.bind_some _ _).symm.trans H; rw [hy292]; with_reducible exact H2_) | (have H2_ := (Option.bind_some _ _).symm.trans H; with_reducible exact H2_) | with_reducible exact H | (rw [hy292]; exact H) | exact H
          have Ny292 := Aside0.mk hy292
          clear hy292
          replace H := Option.bind_eq_some_iff.mp H
          obtain ⟨t296, A80, H⟩ := H
          replace H : (if (t296.length : Int) = 0 then ((remontoirlaw04_knows.f kj2).bind fun t299 => (some t299)) else (some false)) = some true := H
          have A8 := Aside0.mk A80
          clear A80
          by_cases c9 : (t296.length : Int) = 0
          · rw [if_pos c9] at H
            have c9b0 : ((t296.length : Int) == 0) = true := beq_iff_eq.mpr c9
            have c9b1 : ((t296.length : Int) != 0) = false := bne_eq_false_iff_eq.mpr c9
            clear c9
            replace H := Option.bind_eq_some_iff.mp H
            obtain ⟨t299, A100, H⟩ := H
            replace H : (some t299) = some true := H
            have A10 := Aside0.mk A100
            clear A100
            have HR_ := Aside0.mk (Option.some.inj H)
            clear H
            have q11 : (0 : Int) ≤ ((l0.length : Int) : Int) := of_decide_eq_true (by first | (with_reducible assumption) | assumption)
            obtain ⟨i011, hi011, _, hsz11, _⟩ := info_parts info29
            have hroom11 : l0.length ≤ c0 := HC0.out
            have hC11 : Kd.C k29 _ A0 l0.length l0 := HR0.out
            have hcut11 := cut_to (P := Try.prog) 22 29 .i64 Try.underlying22 hi011 A0 l0.length c0 0 (by omega) q11 hroom11
            have hr11 := Kd.C_take (m := 0) hC11 (by omega)
            have hy11 : y292.length = (0 : Int).toNat := (by rw [Ny292.out, List.length_take]; omega)
            rw [← Ny292.out] at hr11
            rw [← hy11] at hcut11
            have HR295 := Aside0.mk hr11
            have HC295 := Aside0.mk (show y292.length ≤ c0 from by omega)
            clear hr11 hC11 hroom11 hi011 hsz11
            have KY11 := Aside0.mk hy11
            clear hy11
            replace q11 := eq_true q11
            go_wp2_with (first | ((with_reducible refine gate_callee (f := 18) rfl ?_); refine goesL_ (some 18) rfl rfl Try.func18 (by kernel_rfl) rfl #[.slice A0 y292.length c0] rfl (by (try simp only [List.map_toArray, List.map_cons, List.map_nil]); first | done | rfl | (simp only [List.length_drop, List.length_take]; rfl)) ?_; (with_reducible refine (span_Norm.calls kj2 _ _ y292 t296 _ ?side1 ?side2 A8.out).mono ?_); (case side1 => repeat (first | exact (Kd.C_below HR295.out HB.out) | (with_reducible refine Kd.C_alloc ?_ _) | (with_reducible refine Kd.C_drewN ?_ _) | (with_reducible refine Kd.C_drew ?_))); (case side2 => exact HC295.out); rintro e w12 ⟨v297, rfl, ho0, hb⟩; refine ⟨_, rfl, ?_⟩; have n0_ := Aside0.mk (Kd.R_lower ho0 (below_size (by repeat (first | (with_reducible first | exact HB.out | apply below_alloc | apply pw_below_drewN | apply below_drew1) | exact HB.out)))); have n1_ := Aside0.mk (below_step (by repeat (first | (with_reducible first | exact HB.out | apply below_alloc | apply pw_below_drewN | apply below_drew1) | exact HB.out)) hb); clear HB; have HO298 := n0_; have HB := n1_; clear n0_ n1_; (try clear hb); (try clear hb2); (try clear hk); (try clear hi); (try clear ho0); obtain ⟨Ao13, co13, eo13⟩ := Kd.R_slice HO298.out; subst eo13) | (go_at_call 14; (with_reducible refine (remontoirlaw04_knows.calls kj2  t299 _ A10.out).mono ?_); rintro e w14 ⟨rfl, hb⟩; have n0_ := Aside0.mk (Kd.R_below (by (with_reducible repeat (first | apply Kd.R_alloc | apply Kd.R_drewN | apply Kd.R_drew)); exact HO298.out) hb); have n1_ := Aside0.mk (below_step (by repeat (first | (with_reducible first | exact HB.out | apply below_alloc | apply pw_below_drewN | apply below_drew1) | exact HB.out)) hb); clear HO298; clear HB; have HO298 := n0_; have HB := n1_; clear n0_ n1_; (try clear hb); (try clear hb2); (try clear hk); (try clear hi)))
            go_ret
            exact ⟨by first | rfl | (rw [HR_.out] <;> rfl) | (simp [errW_none, errW_some] <;> rfl) | (simp [*, errW_none, errW_some] <;> rfl), by repeat (first | (with_reducible first | exact HB.out | apply below_alloc | apply pw_below_drewN | apply below_drew1) | exact HB.out)⟩
          · rw [if_neg c9] at H
            have c9b0 : ((t296.length : Int) == 0) = false := beq_eq_false_iff_ne.mpr c9
            have c9b1 : ((t296.length : Int) != 0) = true := bne_iff_ne.mpr c9
            have c9b2 : ¬ (t296 = []) := fun h_ => c9 (by rw [h_]; rfl)
            exact absurd H (by simp)
        · rw [if_neg c7] at H
          exact absurd H (by simp)
      · replace c6 := Bool.eq_false_iff.mpr c6
        subst c6
        have H1 : (if (l0.length : Int) = 0 then (none) else ((span_Norm.f kj2 l0).bind fun t300 => ((some (([] : List (S29)) : List (S29))).bind fun y303 => (if 0 ≤ (Int.tmod (wrap64 (a1)) (l0.length : Int)) then (if (Int.tmod (wrap64 (a1)) (l0.length : Int)) ≤ (l0.length : Int) then ((some (l0.drop ((Int.tmod (wrap64 (a1)) (l0.length : Int)) : Int).toNat : List (S29))).bind fun y306 => (if y303.length + y306.length < 8796093022208 then ((some (y303 ++ y306 : List (S29))).bind fun y310 => ((some (l0.take ((Int.tmod (wrap64 (a1)) (l0.length : Int)) : Int).toNat : List (S29))).bind fun y313 => (if y310.length + y313.length < 8796093022208 then ((span_Norm.f kj2 (y310 ++ y313)).bind fun t320 => (if (Int.tmod (wrap64 (a1)) (l0.length : Int)) < (l0.length : Int) then ((span_Without.f kj2 l0 ((rd_T29 l0 (Int.tmod (wrap64 (a1)) (l0.length : Int))).f0) ((rd_T29 l0 (Int.tmod (wrap64 (a1)) (l0.length : Int))).f1)).bind fun t324 => ((some (([(⟨(rd_T29 l0 (Int.tmod (wrap64 (a1)) (l0.length : Int))).f0, (rd_T29 l0 (Int.tmod (wrap64 (a1)) (l0.length : Int))).f1⟩ : S29)] : List (S29)) : List (S29))).bind fun y328 => (if t324.length + y328.length < 8796093022208 then ((span_Norm.f kj2 (t324 ++ y328)).bind fun t334 => ((span_Norm.f kj2 t300).bind fun t337 => ((remontoirref04_Same.f kj2 t337 t300).bind fun t340 => (if t340 = true then ((remontoirref04_Same.f kj2 t300 t320).bind fun t341 => (if t341 = true then ((remontoirref04_Same.f kj2 t334 t300).bind fun t342 => (if t342 = true then ((remontoirlaw04_knows.f kj2).bind fun t343 => (some t343)) else (some false))) else (some false))) else (some false))))) else (none)))) else (none))) else (none)))) else (none))) else (none)) else (none))))) = some true := by rw [if_neg (show ¬ (false = true) by decide)] at H; exact H
        clear H
        have H := H1
        clear H1
        by_cases c15 : (l0.length : Int) = 0
        · rw [if_pos c15] at H
          exact absurd H (by simp)
        · rw [if_neg c15] at H
          have c15b0 : ((l0.length : Int) == 0) = false := beq_eq_false_iff_ne.mpr c15
          have c15b1 : ((l0.length : Int) != 0) = true := bne_iff_ne.mpr c15
          have c15b2 : ¬ (l0 = []) := fun h_ => c15 (by rw [h_]; rfl)
          replace H := Option.bind_eq_some_iff.mp H
          obtain ⟨t300, A160, H⟩ := H
          replace H : ((some (([] : List (S29)) : List (S29))).bind fun y303 => (if 0 ≤ (Int.tmod (wrap64 (a1)) (l0.length : Int)) then (if (Int.tmod (wrap64 (a1)) (l0.length : Int)) ≤ (l0.length : Int) then ((some (l0.drop ((Int.tmod (wrap64 (a1)) (l0.length : Int)) : Int).toNat : List (S29))).bind fun y306 => (if y303.length + y306.length < 8796093022208 then ((some (y303 ++ y306 : List (S29))).bind fun y310 => ((some (l0.take ((Int.tmod (wrap64 (a1)) (l0.length : Int)) : Int).toNat : List (S29))).bind fun y313 => (if y310.length + y313.length < 8796093022208 then ((span_Norm.f kj2 (y310 ++ y313)).bind fun t320 => (if (Int.tmod (wrap64 (a1)) (l0.length : Int)) < (l0.length : Int) then ((span_Without.f kj2 l0 ((rd_T29 l0 (Int.tmod (wrap64 (a1)) (l0.length : Int))).f0) ((rd_T29 l0 (Int.tmod (wrap64 (a1)) (l0.length : Int))).f1)).bind fun t324 => ((some (([(⟨(rd_T29 l0 (Int.tmod (wrap64 (a1)) (l0.length : Int))).f0, (rd_T29 l0 (Int.tmod (wrap64 (a1)) (l0.length : Int))).f1⟩ : S29)] : List (S29)) : List (S29))).bind fun y328 => (if t324.length + y328.length < 8796093022208 then ((span_Norm.f kj2 (t324 ++ y328)).bind fun t334 => ((span_Norm.f kj2 t300).bind fun t337 => ((remontoirref04_Same.f kj2 t337 t300).bind fun t340 => (if t340 = true then ((remontoirref04_Same.f kj2 t300 t320).bind fun t341 => (if t341 = true then ((remontoirref04_Same.f kj2 t334 t300).bind fun t342 => (if t342 = true then ((remontoirlaw04_knows.f kj2).bind fun t343 => (some t343)) else (some false))) else (some false))) else (some false))))) else (none)))) else (none))) else (none)))) else (none))) else (none)) else (none))) = some true := H
          have A16 := Aside0.mk A160
          clear A160
          obtain ⟨y303, hy303⟩ : ∃ y_ : List (S29), y_ = (([] : List (S29))) := ⟨_, rfl⟩
          replace H : (if 0 ≤ (Int.tmod (wrap64 (a1)) (l0.length : Int)) then (if (Int.tmod (wrap64 (a1)) (l0.length : Int)) ≤ (l0.length : Int) then ((some (l0.drop ((Int.tmod (wrap64 (a1)) (l0.length : Int)) : Int).toNat : List (S29))).bind fun y306 => (if y303.length + y306.length < 8796093022208 then ((some (y303 ++ y306 : List (S29))).bind fun y310 => ((some (l0.take ((Int.tmod (wrap64 (a1)) (l0.length : Int)) : Int).toNat : List (S29))).bind fun y313 => (if y310.length + y313.length < 8796093022208 then ((span_Norm.f kj2 (y310 ++ y313)).bind fun t320 => (if (Int.tmod (wrap64 (a1)) (l0.length : Int)) < (l0.length : Int) then ((span_Without.f kj2 l0 ((rd_T29 l0 (Int.tmod (wrap64 (a1)) (l0.length : Int))).f0) ((rd_T29 l0 (Int.tmod (wrap64 (a1)) (l0.length : Int))).f1)).bind fun t324 => ((some (([(⟨(rd_T29 l0 (Int.tmod (wrap64 (a1)) (l0.length : Int))).f0, (rd_T29 l0 (Int.tmod (wrap64 (a1)) (l0.length : Int))).f1⟩ : S29)] : List (S29)) : List (S29))).bind fun y328 => (if t324.length + y328.length < 8796093022208 then ((span_Norm.f kj2 (t324 ++ y328)).bind fun t334 => ((span_Norm.f kj2 t300).bind fun t337 => ((remontoirref04_Same.f kj2 t337 t300).bind fun t340 => (if t340 = true then ((remontoirref04_Same.f kj2 t300 t320).bind fun t341 => (if t341 = true then ((remontoirref04_Same.f kj2 t334 t300).bind fun t342 => (if t342 = true then ((remontoirlaw04_knows.f kj2).bind fun t343 => (some t343)) else (some false))) else (some false))) else (some false))))) else (none)))) else (none))) else (none)))) else (none))) else (none)) else (none)) = some true := by first | (rw [hy303]; with_reducible exact H) | (have H2_ := (Option.bind_some _ _).symm.trans H; rw [hy303]; with_reducible exact H2_) | (have H2_ := (Option.bind_some _ _).symm.trans H; with_reducible exact H2_) | with_reducible exact H | (rw [hy303]; exact H) | exact H
          have Ny303 := Aside0.mk hy303
          clear hy303
          obtain ⟨ji17, hji17⟩ : ∃ j_ : Int, (Int.tmod (wrap64 (a1)) (l0.length : Int)) = j_ := ⟨_, rfl⟩
          replace H : (if 0 ≤ (ji17) then (if (ji17) ≤ (l0.length : Int) then ((some (l0.drop ((ji17) : Int).toNat : List (S29))).bind fun y306 => (if y303.length + y306.length < 8796093022208 then ((some (y303 ++ y306 : List (S29))).bind fun y310 => ((some (l0.take ((ji17) : Int).toNat : List (S29))).bind fun y313 => (if y310.length + y313.length < 8796093022208 then ((span_Norm.f kj2 (y310 ++ y313)).bind fun t320 => (if (ji17) < (l0.length : Int) then ((span_Without.f kj2 l0 ((rd_T29 l0 (ji17)).f0) ((rd_T29 l0 (ji17)).f1)).bind fun t324 => ((some (([(⟨(rd_T29 l0 (ji17)).f0, (rd_T29 l0 (ji17)).f1⟩ : S29)] : List (S29)) : List (S29))).bind fun y328 => (if t324.length + y328.length < 8796093022208 then ((span_Norm.f kj2 (t324 ++ y328)).bind fun t334 => ((span_Norm.f kj2 t300).bind fun t337 => ((remontoirref04_Same.f kj2 t337 t300).bind fun t340 => (if t340 = true then ((remontoirref04_Same.f kj2 t300 t320).bind fun t341 => (if t341 = true then ((remontoirref04_Same.f kj2 t334 t300).bind fun t342 => (if t342 = true then ((remontoirlaw04_knows.f kj2).bind fun t343 => (some t343)) else (some false))) else (some false))) else (some false))))) else (none)))) else (none))) else (none)))) else (none))) else (none)) else (none)) = some true := by first | (rw [hji17] at H; exact H) | (simp only [hji17] at H ⊢; exact H)
          (try rw [hji17] at A16)
          by_cases c18 : 0 ≤ (ji17)
          · rw [if_pos c18] at H
            have c18b0 := eq_true c18
            have c18b1 : decide (0 ≤ (ji17)) = true := decide_eq_true c18
            clear c18
            by_cases c19 : (ji17) ≤ (l0.length : Int)
            · rw [if_pos c19] at H
              have c19b0 := eq_true c19
              have c19b1 : decide ((ji17) ≤ (l0.length : Int)) = true := decide_eq_true c19
              clear c19
              obtain ⟨y306, hy306⟩ : ∃ y_ : List (S29), y_ = (l0.drop ((ji17) : Int).toNat) := ⟨_, rfl⟩
              replace H : (if y303.length + y306.length < 8796093022208 then ((some (y303 ++ y306 : List (S29))).bind fun y310 => ((some (l0.take ((ji17) : Int).toNat : List (S29))).bind fun y313 => (if y310.length + y313.length < 8796093022208 then ((span_Norm.f kj2 (y310 ++ y313)).bind fun t320 => (if (ji17) < (l0.length : Int) then ((span_Without.f kj2 l0 ((rd_T29 l0 (ji17)).f0) ((rd_T29 l0 (ji17)).f1)).bind fun t324 => ((some (([(⟨(rd_T29 l0 (ji17)).f0, (rd_T29 l0 (ji17)).f1⟩ : S29)] : List (S29)) : List (S29))).bind fun y328 => (if t324.length + y328.length < 8796093022208 then ((span_Norm.f kj2 (t324 ++ y328)).bind fun t334 => ((span_Norm.f kj2 t300).bind fun t337 => ((remontoirref04_Same.f kj2 t337 t300).bind fun t340 => (if t340 = true then ((remontoirref04_Same.f kj2 t300 t320).bind fun t341 => (if t341 = true then ((remontoirref04_Same.f kj2 t334 t300).bind fun t342 => (if t342 = true then ((remontoirlaw04_knows.f kj2).bind fun t343 => (some t343)) else (some false))) else (some false))) else (some false))))) else (none)))) else (none))) else (none)))) else (none)) = some true := by first | (rw [hy306]; with_reducible exact H) | (have H2_ := (Option.bind_some _ _).symm.trans H; rw [hy306]; with_reducible exact H2_) | (have H2_ := (Option.bind_some _ _).symm.trans H; with_reducible exact H2_) | with_reducible exact H | (rw [hy306]; exact H) | exact H
              have Ny306 := Aside0.mk hy306
              clear hy306
              by_cases c20 : y303.length + y306.length < 8796093022208
              · rw [if_pos c20] at H
                have LMc20 := Aside0.mk c20
                clear c20
                obtain ⟨y310, hy310⟩ : ∃ y_ : List (S29), y_ = (y303 ++ y306) := ⟨_, rfl⟩
                replace H : ((some (l0.take ((ji17) : Int).toNat : List (S29))).bind fun y313 => (if y310.length + y313.length < 8796093022208 then ((span_Norm.f kj2 (y310 ++ y313)).bind fun t320 => (if (ji17) < (l0.length : Int) then ((span_Without.f kj2 l0 ((rd_T29 l0 (ji17)).f0) ((rd_T29 l0 (ji17)).f1)).bind fun t324 => ((some (([(⟨(rd_T29 l0 (ji17)).f0, (rd_T29 l0 (ji17)).f1⟩ : S29)] : List (S29)) : List (S29))).bind fun y328 => (if t324.length + y328.length < 8796093022208 then ((span_Norm.f kj2 (t324 ++ y328)).bind fun t334 => ((span_Norm.f kj2 t300).bind fun t337 => ((remontoirref04_Same.f kj2 t337 t300).bind fun t340 => (if t340 = true then ((remontoirref04_Same.f kj2 t300 t320).bind fun t341 => (if t341 = true then ((remontoirref04_Same.f kj2 t334 t300).bind fun t342 => (if t342 = true then ((remontoirlaw04_knows.f kj2).bind fun t343 => (some t343)) else (some false))) else (some false))) else (some false))))) else (none)))) else (none))) else (none))) = some true := by first | (rw [hy310]; with_reducible exact H) | (have H2_ := (Option.bind_some _ _).symm.trans H; rw [hy310]; with_reducible exact H2_) | (have H2_ := (Option.bind_some _ _).symm.trans H; with_reducible exact H2_) | with_reducible exact H | (rw [hy310]; exact H) | exact H
                have Ny310 := Aside0.mk hy310
                clear hy310
                have c21b0 := eq_true (of_decide_eq_true (by first | (with_reducible assumption) | assumption) : 0 ≤ (ji17))
                have c22b0 := eq_true (of_decide_eq_true (by first | (with_reducible assumption) | assumption) : (ji17) ≤ (l0.length : Int))
                obtain ⟨y313, hy313⟩ : ∃ y_ : List (S29), y_ = (l0.take ((ji17) : Int).toNat) := ⟨_, rfl⟩
                replace H : (if y310.length + y313.length < 8796093022208 then ((span_Norm.f kj2 (y310 ++ y313)).bind fun t320 => (if (ji17) < (l0.length : Int) then ((span_Without.f kj2 l0 ((rd_T29 l0 (ji17)).f0) ((rd_T29 l0 (ji17)).f1)).bind fun t324 => ((some (([(⟨(rd_T29 l0 (ji17)).f0, (rd_T29 l0 (ji17)).f1⟩ : S29)] : List (S29)) : List (S29))).bind fun y328 => (if t324.length + y328.length < 8796093022208 then ((span_Norm.f kj2 (t324 ++ y328)).bind fun t334 => ((span_Norm.f kj2 t300).bind fun t337 => ((remontoirref04_Same.f kj2 t337 t300).bind fun t340 => (if t340 = true then ((remontoirref04_Same.f kj2 t300 t320).bind fun t341 => (if t341 = true then ((remontoirref04_Same.f kj2 t334 t300).bind fun t342 => (if t342 = true then ((remontoirlaw04_knows.f kj2).bind fun t343 => (some t343)) else (some false))) else (some false))) else (some false))))) else (none)))) else (none))) else (none)) = some true := by first | (rw [hy313]; with_reducible exact H) | (have H2_ := (Option.bind_some _ _).symm.trans H; rw [hy313]; with_reducible exact H2_) | (have H2_ := (Option.bind_some _ _).symm.trans H; with_reducible exact H2_) | with_reducible exact H | (rw [hy313]; exact H) | exact H
                have Ny313 := Aside0.mk hy313
                clear hy313
                by_cases c23 : y310.length + y313.length < 8796093022208
                · rw [if_pos c23] at H
                  have LMc23 := Aside0.mk c23
                  clear c23
                  obtain ⟨y317, hy317⟩ : ∃ y_ : List (S29), y_ = (y310 ++ y313) := ⟨_, rfl⟩
                  replace H : ((span_Norm.f kj2 y317).bind fun t320 => (if (ji17) < (l0.length : Int) then ((span_Without.f kj2 l0 ((rd_T29 l0 (ji17)).f0) ((rd_T29 l0 (ji17)).f1)).bind fun t324 => ((some (([(⟨(rd_T29 l0 (ji17)).f0, (rd_T29 l0 (ji17)).f1⟩ : S29)] : List (S29)) : List (S29))).bind fun y328 => (if t324.length + y328.length < 8796093022208 then ((span_Norm.f kj2 (t324 ++ y328)).bind fun t334 => ((span_Norm.f kj2 t300).bind fun t337 => ((remontoirref04_Same.f kj2 t337 t300).bind fun t340 => (if t340 = true then ((remontoirref04_Same.f kj2 t300 t320).bind fun t341 => (if t341 = true then ((remontoirref04_Same.f kj2 t334 t300).bind fun t342 => (if t342 = true then ((remontoirlaw04_knows.f kj2).bind fun t343 => (some t343)) else (some false))) else (some false))) else (some false))))) else (none)))) else (none))) = some true := by first | (rw [hy317]; with_reducible exact H) | (have H2_ := (Option.bind_some _ _).symm.trans H; rw [hy317]; with_reducible exact H2_) | (have H2_ := (Option.bind_some _ _).symm.trans H; with_reducible exact H2_) | with_reducible exact H | (rw [hy317]; exact H) | exact H
                  have Ny317 := Aside0.mk hy317
                  clear hy317
                  replace H := Option.bind_eq_some_iff.mp H
                  obtain ⟨t320, A240, H⟩ := H
                  replace H : (if (ji17) < (l0.length : Int) then ((span_Without.f kj2 l0 ((rd_T29 l0 (ji17)).f0) ((rd_T29 l0 (ji17)).f1)).bind fun t324 => ((some (([(⟨(rd_T29 l0 (ji17)).f0, (rd_T29 l0 (ji17)).f1⟩ : S29)] : List (S29)) : List (S29))).bind fun y328 => (if t324.length + y328.length < 8796093022208 then ((span_Norm.f kj2 (t324 ++ y328)).bind fun t334 => ((span_Norm.f kj2 t300).bind fun t337 => ((remontoirref04_Same.f kj2 t337 t300).bind fun t340 => (if t340 = true then ((remontoirref04_Same.f kj2 t300 t320).bind fun t341 => (if t341 = true then ((remontoirref04_Same.f kj2 t334 t300).bind fun t342 => (if t342 = true then ((remontoirlaw04_knows.f kj2).bind fun t343 => (some t343)) else (some false))) else (some false))) else (some false))))) else (none)))) else (none)) = some true := H
                  have A24 := Aside0.mk A240
                  clear A240
                  by_cases c25 : (ji17) < (l0.length : Int)
                  · rw [if_pos c25] at H
                    have c25b0 : decide ((ji17) < (l0.length : Int)) = true := decide_eq_true c25
                    clear c25
                    replace H := Option.bind_eq_some_iff.mp H
                    obtain ⟨t324, A260, H⟩ := H
                    replace H : ((some (([(⟨(rd_T29 l0 (ji17)).f0, (rd_T29 l0 (ji17)).f1⟩ : S29)] : List (S29)) : List (S29))).bind fun y328 => (if t324.length + y328.length < 8796093022208 then ((span_Norm.f kj2 (t324 ++ y328)).bind fun t334 => ((span_Norm.f kj2 t300).bind fun t337 => ((remontoirref04_Same.f kj2 t337 t300).bind fun t340 => (if t340 = true then ((remontoirref04_Same.f kj2 t300 t320).bind fun t341 => (if t341 = true then ((remontoirref04_Same.f kj2 t334 t300).bind fun t342 => (if t342 = true then ((remontoirlaw04_knows.f kj2).bind fun t343 => (some t343)) else (some false))) else (some false))) else (some false))))) else (none))) = some true := H
                    have A26 := Aside0.mk A260
                    clear A260
                    obtain ⟨y328, hy328⟩ : ∃ y_ : List (S29), y_ = (([(⟨(rd_T29 l0 (ji17)).f0, (rd_T29 l0 (ji17)).f1⟩ : S29)] : List (S29))) := ⟨_, rfl⟩
                    replace H : (if t324.length + y328.length < 8796093022208 then ((span_Norm.f kj2 (t324 ++ y328)).bind fun t334 => ((span_Norm.f kj2 t300).bind fun t337 => ((remontoirref04_Same.f kj2 t337 t300).bind fun t340 => (if t340 = true then ((remontoirref04_Same.f kj2 t300 t320).bind fun t341 => (if t341 = true then ((remontoirref04_Same.f kj2 t334 t300).bind fun t342 => (if t342 = true then ((remontoirlaw04_knows.f kj2).bind fun t343 => (some t343)) else (some false))) else (some false))) else (some false))))) else (none)) = some true := by first | (rw [hy328]; with_reducible exact H) | (have H2_ := (Option.bind_some _ _).symm.trans H; rw [hy328]; with_reducible exact H2_) | (have H2_ := (Option.bind_some _ _).symm.trans H; with_reducible exact H2_) | with_reducible exact H | (rw [hy328]; exact H) | exact H
                    have Ny328 := Aside0.mk hy328
                    clear hy328
                    by_cases c27 : t324.length + y328.length < 8796093022208
                    · rw [if_pos c27] at H
                      have LMc27 := Aside0.mk c27
                      clear c27
                      obtain ⟨y331, hy331⟩ : ∃ y_ : List (S29), y_ = (t324 ++ y328) := ⟨_, rfl⟩
                      replace H : ((span_Norm.f kj2 y331).bind fun t334 => ((span_Norm.f kj2 t300).bind fun t337 => ((remontoirref04_Same.f kj2 t337 t300).bind fun t340 => (if t340 = true then ((remontoirref04_Same.f kj2 t300 t320).bind fun t341 => (if t341 = true then ((remontoirref04_Same.f kj2 t334 t300).bind fun t342 => (if t342 = true then ((remontoirlaw04_knows.f kj2).bind fun t343 => (some t343)) else (some false))) else (some false))) else (some false))))) = some true := by first | (rw [hy331]; with_reducible exact H) | (have H2_ := (Option.bind_some _ _).symm.trans H; rw [hy331]; with_reducible exact H2_) | (have H2_ := (Option.bind_some _ _).symm.trans H; with_reducible exact H2_) | with_reducible exact H | (rw [hy331]; exact H) | exact H
                      have Ny331 := Aside0.mk hy331
                      clear hy331
                      replace H := Option.bind_eq_some_iff.mp H
                      obtain ⟨t334, A280, H⟩ := H
                      replace H : ((span_Norm.f kj2 t300).bind fun t337 => ((remontoirref04_Same.f kj2 t337 t300).bind fun t340 => (if t340 = true then ((remontoirref04_Same.f kj2 t300 t320).bind fun t341 => (if t341 = true then ((remontoirref04_Same.f kj2 t334 t300).bind fun t342 => (if t342 = true then ((remontoirlaw04_knows.f kj2).bind fun t343 => (some t343)) else (some false))) else (some false))) else (some false)))) = some true := H
                      have A28 := Aside0.mk A280
                      clear A280
                      replace H := Option.bind_eq_some_iff.mp H
                      obtain ⟨t337, A290, H⟩ := H
                      replace H : ((remontoirref04_Same.f kj2 t337 t300).bind fun t340 => (if t340 = true then ((remontoirref04_Same.f kj2 t300 t320).bind fun t341 => (if t341 = true then ((remontoirref04_Same.f kj2 t334 t300).bind fun t342 => (if t342 = true then ((remontoirlaw04_knows.f kj2).bind fun t343 => (some t343)) else (some false))) else (some false))) else (some false))) = some true := H
                      have A29 := Aside0.mk A290
                      clear A290
                      replace H := Option.bind_eq_some_iff.mp H
                      obtain ⟨t340, A300, H⟩ := H
                      replace H : (if t340 = true then ((remontoirref04_Same.f kj2 t300 t320).bind fun t341 => (if t341 = true then ((remontoirref04_Same.f kj2 t334 t300).bind fun t342 => (if t342 = true then ((remontoirlaw04_knows.f kj2).bind fun t343 => (some t343)) else (some false))) else (some false))) else (some false)) = some true := H
                      have A30 := Aside0.mk A300
                      clear A300
                      by_cases c31 : t340 = true
                      · subst c31
                        have H1 : ((remontoirref04_Same.f kj2 t300 t320).bind fun t341 => (if t341 = true then ((remontoirref04_Same.f kj2 t334 t300).bind fun t342 => (if t342 = true then ((remontoirlaw04_knows.f kj2).bind fun t343 => (some t343)) else (some false))) else (some false))) = some true := by rw [if_pos rfl] at H; exact H
                        clear H
                        have H := H1
                        clear H1
                        replace H := Option.bind_eq_some_iff.mp H
                        obtain ⟨t341, A320, H⟩ := H
                        replace H : (if t341 = true then ((remontoirref04_Same.f kj2 t334 t300).bind fun t342 => (if t342 = true then ((remontoirlaw04_knows.f kj2).bind fun t343 => (some t343)) else (some false))) else (some false)) = some true := H
                        have A32 := Aside0.mk A320
                        clear A320
                        by_cases c33 : t341 = true
                        · subst c33
                          have H1 : ((remontoirref04_Same.f kj2 t334 t300).bind fun t342 => (if t342 = true then ((remontoirlaw04_knows.f kj2).bind fun t343 => (some t343)) else (some false))) = some true := by rw [if_pos rfl] at H; exact H
                          clear H
                          have H := H1
                          clear H1
                          replace H := Option.bind_eq_some_iff.mp H
                          obtain ⟨t342, A340, H⟩ := H
                          replace H : (if t342 = true then ((remontoirlaw04_knows.f kj2).bind fun t343 => (some t343)) else (some false)) = some true := H
                          have A34 := Aside0.mk A340
                          clear A340
                          by_cases c35 : t342 = true
                          · subst c35
                            have H1 : ((remontoirlaw04_knows.f kj2).bind fun t343 => (some t343)) = some true := by rw [if_pos rfl] at H; exact H
                            clear H
                            have H := H1
                            clear H1
                            replace H := Option.bind_eq_some_iff.mp H
                            obtain ⟨t343, A360, H⟩ := H
                            replace H : (some t343) = some true := H
                            have A36 := Aside0.mk A360
                            clear A360
                            have HR_ := Aside0.mk (Option.some.inj H)
                            clear H
                            try go_wp2_with (first | ((with_reducible refine gate_callee (f := 18) rfl ?_); refine goesL_ (some 30) rfl rfl Try.func18 (by kernel_rfl) rfl #[.slice A0 l0.length c0] rfl (by (try simp only [List.map_toArray, List.map_cons, List.map_nil]); first | done | rfl | (simp only [List.length_drop, List.length_take]; rfl)) ?_; (with_reducible refine (span_Norm.calls kj2 _ _ l0 t300 _ ?side1 ?side2 A16.out).mono ?_); (case side1 => repeat (first | exact (Kd.C_below HR0.out HB.out) | (with_reducible refine Kd.C_alloc ?_ _) | (with_reducible refine Kd.C_drewN ?_ _) | (with_reducible refine Kd.C_drew ?_))); (case side2 => exact HC0.out); rintro e w37 ⟨v301, rfl, ho0, hb⟩; refine ⟨_, rfl, ?_⟩; have n0_ := Aside0.mk (Kd.R_lower ho0 (below_size (by repeat (first | (with_reducible first | exact HB.out | apply below_alloc | apply pw_below_drewN | apply below_drew1) | exact HB.out)))); have n1_ := Aside0.mk (below_step (by repeat (first | (with_reducible first | exact HB.out | apply below_alloc | apply pw_below_drewN | apply below_drew1) | exact HB.out)) hb); clear HB; have HO302 := n0_; have HB := n1_; clear n0_ n1_; (try clear hb); (try clear hb2); (try clear hk); (try clear hi); (try clear ho0)))
                            have n0_ := Aside0.mk (Kd.R_drew HO302.out)
                            have n1_ := Aside0.mk (below_drew1 HB.out)
                            clear HO302
                            clear HB
                            have HO302 := n0_
                            have HB := n1_
                            clear n0_ n1_
                            have q39 : ((ji17) : Int) ≤ ((l0.length : Int) : Int) := of_decide_eq_true (by first | (with_reducible assumption) | assumption)
                            obtain ⟨i039, hi039, _, hsz39, _⟩ := info_parts info29
                            have hroom39 : l0.length ≤ c0 := HC0.out
                            have hC39 : Kd.C k29 _ A0 l0.length l0 := HR0.out
                            have q039 : (0 : Int) ≤ ((ji17) : Int) := of_decide_eq_true (by first | (with_reducible assumption) | assumption)
                            have hcut39 := cut_from (P := Try.prog) 22 29 .i64 Try.underlying22 hi039 2 hsz39 A0 l0.length c0 (ji17) q039 q39
                            have hr39 := Kd.C_drop (m := ((ji17) : Int).toNat) (c := c0) hC39 (by omega) hroom39
                            obtain ⟨A39, hA39⟩ : ∃ A1, A1 = (if c0 = ((ji17) : Int).toNat then A0 else (A0 : Option Addr).map (·.add (((ji17) : Int).toNat * 2))) := ⟨_, rfl⟩
                            obtain ⟨c39, hc39⟩ : ∃ c1, c1 = c0 - ((ji17) : Int).toNat := ⟨_, rfl⟩
                            have hy39 : y306.length = l0.length - ((ji17) : Int).toNat := (by rw [Ny306.out, List.length_drop] <;> omega)
                            rw [show (l0).drop ((ji17) : Int).toNat = y306 from Ny306.out.symm] at hr39
                            replace hr39 : Kd.C k29 _ A39 y306.length y306 := (by rw [hA39]; exact hr39)
                            rw [← hy39, ← hA39, ← hc39] at hcut39
                            have HR309 := Aside0.mk hr39
                            have HC309 := Aside0.mk (show y306.length ≤ c39 from by rw [hy39, hc39]; exact Nat.sub_le_sub_right hroom39 _)
                            clear hr39 hC39 hroom39 hi039 hsz39 hc39
                            have KY39 := Aside0.mk hy39
                            have KA39 := Aside0.mk hA39
                            clear hy39 hA39
                            replace q39 := eq_true q39
                            have q40 : ((ji17) : Int) ≤ ((l0.length : Int) : Int) := of_decide_eq_true (by first | (with_reducible assumption) | assumption)
                            obtain ⟨i040, hi040, _, hsz40, _⟩ := info_parts info29
                            have hroom40 : l0.length ≤ c0 := HC0.out
                            have hC40 : Kd.C k29 _ A0 l0.length l0 := HR0.out
                            have hcut40 := cut_to (P := Try.prog) 22 29 .i64 Try.underlying22 hi040 A0 l0.length c0 (ji17) (of_decide_eq_true (by first | (with_reducible assumption) | assumption)) q40 hroom40
                            have hr40 := Kd.C_take (m := ((ji17) : Int).toNat) hC40 (by omega)
                            have hy40 : y313.length = ((ji17) : Int).toNat := (by rw [Ny313.out, List.length_take]; omega)
                            rw [← Ny313.out] at hr40
                            rw [← hy40] at hcut40
                            have HR316 := Aside0.mk hr40
                            have HC316 := Aside0.mk (show y313.length ≤ c0 from by omega)
                            clear hr40 hC40 hroom40 hi040 hsz40
                            have KY40 := Aside0.mk hy40
                            clear hy40
                            replace q40 := eq_true q40
                            refine start_ (n := 11) (S := fun w' => True) (ds := []) #[false, false, false, false, false, false, false, false, false, false, false] (by kernel_rfl) rfl rfl trivial (fun hHeld => ?_); refine with_tabW remontoirlaw04_SpanAgain.tab5 remontoirlaw04_SpanAgain.bits5 (fun HT_ HW_ => ?_)
                            generalize w37.drew = w38 at HO302 HB HR309 HR316 hHeld ⊢
                            refine pure_ (i := 1) (N := some 32) (v := ?_) (a' := ?_) #[false, true, false, false, false, false, false, false, false, false, false] rfl rfl (any_of HT_.out (by kernel_rfl)) (fun _ _ _ h => h) (Or.inl ⟨by rfl, ?_⟩) ?_ ?_
                            rotate_left
                            · intro w'
                              go_simp
                              with_reducible rfl
                            rotate_left
                            · simp only [Act.put, List.setIfInBounds_toArray, List.set_cons_zero, List.set_cons_succ, i64_w, i32_w]
                              rfl
                            refine pure_ (i := 2) (N := some 33) (v := ?_) (a' := ?_) #[false, true, true, false, false, false, false, false, false, false, false] rfl rfl (any_of HT_.out (by kernel_rfl)) (fun _ _ _ h => h) (Or.inl ⟨by rfl, ?_⟩) ?_ ?_
                            rotate_left
                            · intro w'
                              go_simp
                              with_reducible rfl
                            rotate_left
                            · simp only [Act.put, List.setIfInBounds_toArray, List.set_cons_zero, List.set_cons_succ, i64_w, i32_w]
                              rfl
                            refine pure_ (i := 3) (N := some 34) (v := ?_) (a' := ?_) #[false, true, true, true, false, false, false, false, false, false, false] rfl rfl (any_of HT_.out (by kernel_rfl)) (fun _ _ _ h => h) (Or.inl ⟨by rfl, ?_⟩) ?_ ?_
                            rotate_left
                            · intro w'
                              go_simp
                              with_reducible rfl
                            rotate_left
                            · simp only [Act.put, List.setIfInBounds_toArray, List.set_cons_zero, List.set_cons_succ, i64_w, i32_w]
                              rfl
                            refine pure_ (i := 5) (N := some 36) (v := ?_) (a' := ?_) #[false, true, true, true, false, true, false, false, false, false, false] rfl rfl (any_of HT_.out (by kernel_rfl)) (fun _ _ _ h => h) (Or.inl ⟨by rfl, ?_⟩) ?_ ?_
                            rotate_left
                            · intro w'
                              go_simp
                              with_reducible rfl
                            rotate_left
                            · simp only [Act.put, List.setIfInBounds_toArray, List.set_cons_zero, List.set_cons_succ, i64_w, i32_w]
                              rfl
                            refine pure_ (i := 6) (N := some 37) (v := ?_) (a' := ?_) #[false, true, true, true, false, true, true, false, false, false, false] rfl rfl (any_of HT_.out (by kernel_rfl)) (fun _ _ _ h => h) (Or.inl ⟨by rfl, ?_⟩) ?_ ?_
                            rotate_left
                            · intro w'
                              go_simp
                              with_reducible rfl
                            rotate_left
                            · simp only [Act.put, List.setIfInBounds_toArray, List.set_cons_zero, List.set_cons_succ, i64_w, i32_w]
                              rfl
                            refine pure_ (i := 7) (N := some 38) (v := ?_) (a' := ?_) #[false, true, true, true, false, true, true, true, false, false, false] rfl rfl (any_of HT_.out (by kernel_rfl)) (fun _ _ _ h => h) (Or.inl ⟨by rfl, ?_⟩) ?_ ?_
                            rotate_left
                            · intro w'
                              go_simp
                              with_reducible rfl
                            rotate_left
                            · simp only [Act.put, List.setIfInBounds_toArray, List.set_cons_zero, List.set_cons_succ, i64_w, i32_w]
                              rfl
                            refine one_ (i := 0) (N := some 31) #[true, true, true, true, false, true, true, true, false, false, false] rfl rfl (one_of HT_.out (by kernel_rfl)) (by decide) (fun K hK => ?_)
                            refine Kd.R_lit_step k29 _ 29 ?hg (N := 31) ?hd (xs := ([] : List (S29))) (inner := []) (ok := fun _ => True) (okp := fun _ => True) ?hr ?hp (fun _ hk => hk) trivial (Below.refl _ _) (Nat.le_refl _) (by simp) ?_; (case hd => rfl); (case hg => rfl); (case hr => first | (go_simp; done) | (go_simp; rfl)); (case hp => exact (Reps.none _ _))
                            intro v304 w41 ho42 hb hg_ hnew_
                            clear hg_ hnew_
                            (first | rw [← Ny303.out] at ho42 | (simp only [Int.reduceToNat] at ho42; rw [← Ny303.out] at ho42))
                            have n0_ := Aside0.mk (Kd.R_elder' (by (with_reducible repeat (first | apply Kd.R_alloc | apply Kd.R_drewN | apply Kd.R_drew)); exact HO302.out) (Kd.R_base ho42) hb)
                            have n1_ := Aside0.mk (Kd.R_lower (Kd.R_new' ho42 (Kd.R_lt (by (with_reducible repeat (first | apply Kd.R_alloc | apply Kd.R_drewN | apply Kd.R_drew)); exact HO302.out))) (below_size (by repeat (first | (with_reducible first | exact HB.out | apply below_alloc | apply pw_below_drewN | apply below_drew1) | exact HB.out))))
                            have n2_ := Aside0.mk (below_step (by repeat (first | (with_reducible first | exact HB.out | apply below_alloc | apply pw_below_drewN | apply below_drew1) | exact HB.out)) hb)
                            clear HO302
                            clear HB
                            have HO302 := n0_
                            have HO305 := n1_
                            have HB := n2_
                            clear n0_ n1_ n2_
                            clear hb ho42
                            refine hK.out _ _ trivial (fun hHeld => ?_)
                            clear hK K
                            refine norm_ (a' := ?_) ?_ ?_
                            rotate_left
                            · show Act.put _ (some 31) _ = _
                              simp only [Act.put, List.setIfInBounds_toArray, List.set_cons_zero, List.set_cons_succ, i64_w, i32_w]
                              rfl
                            refine one_ (i := 4) (N := some 35) #[true, true, true, true, true, true, true, true, false, false, false] rfl rfl (one_of HT_.out (by kernel_rfl)) (by decide) (fun K hK => ?_)
                            refine Kd.R_append_rows_step k29 (w0 := w) w.heap.size (by rfl) (.tmp 31) (.tmp 34) 22 29 (.agg #[(.int .i64 0), (.int .i64 0)]) 16 rfl Try.underlying22 info29 rfl (by decide) (by omega) v304 y303 y306 _ _ _ (fun k_ => some k_ ≠ (v301 : Value).ownBlock) (fun _ => False) rfl rfl ?aO ?aR (fun _ _ h => h) (fun _ h => h.elim) ?aF ?aB ?aS ?aL ?_
                            (case aR => repeat (first | exact (Kd.C_below HR309.out HB.out) | (with_reducible refine Kd.C_alloc ?_ _) | (with_reducible refine Kd.C_drewN ?_ _) | (with_reducible refine Kd.C_drew ?_)))
                            (case aB => exact (by repeat (first | (with_reducible first | exact HB.out | apply below_alloc | apply pw_below_drewN | apply below_drew1) | exact HB.out)))
                            (case aF => exact (fun k_ hk => Kd.fresh' (Kd.R_lt (by (with_reducible repeat (first | apply Kd.R_alloc | apply Kd.R_drewN | apply Kd.R_drew)); exact HO302.out)) k_ hk))
                            (case aO => exact (by (with_reducible repeat (first | apply Kd.R_alloc | apply Kd.R_drewN | apply Kd.R_drew)); exact Kd.R_mono HO305.out (fun _ hk => hk.2)))
                            (case aS => exact (below_size (by repeat (first | (with_reducible first | exact HB.out | apply below_alloc | apply pw_below_drewN | apply below_drew1) | exact HB.out))))
                            (case aL => have := LMc20.out; omega)
                            intro v311 w43 ho hb hg hat
                            rw [← Ny310.out] at ho
                            have n0_ := Aside0.mk (Kd.R_after (ok := (fun _ => True)) (by (with_reducible repeat (first | apply Kd.R_alloc | apply Kd.R_drewN | apply Kd.R_drew)); exact HO302.out) hg hat)
                            have n1_ := Aside0.mk (hb)
                            have n2_ := Aside0.mk (ho)
                            clear HO302
                            clear HB
                            clear HO305
                            have HO302 := n0_
                            have HB := n1_
                            have HO312 := n2_
                            clear n0_ n1_ n2_
                            clear ho hb hg hat
                            refine hK.out _ _ trivial (fun hHeld => ?_)
                            clear hK K
                            refine norm_ (a' := ?_) ?_ ?_
                            rotate_left
                            · show Act.put _ (some 35) _ = _
                              simp only [Act.put, List.setIfInBounds_toArray, List.set_cons_zero, List.set_cons_succ, i64_w, i32_w]
                              rfl
                            refine one_ (i := 8) (N := some 39) #[true, true, true, true, true, true, true, true, true, false, false] rfl rfl (one_of HT_.out (by kernel_rfl)) (by decide) (fun K hK => ?_)
                            refine Kd.R_append_rows_step k29 (w0 := w) w.heap.size (by rfl) (.tmp 35) (.tmp 38) 22 29 (.agg #[(.int .i64 0), (.int .i64 0)]) 16 rfl Try.underlying22 info29 rfl (by decide) (by omega) v311 y310 y313 _ _ _ (fun k_ => some k_ ≠ (v301 : Value).ownBlock) (fun _ => False) rfl rfl ?aO ?aR (fun _ _ h => h) (fun _ h => h.elim) ?aF ?aB ?aS ?aL ?_
                            (case aR => repeat (first | exact (Kd.C_below HR316.out HB.out) | (with_reducible refine Kd.C_alloc ?_ _) | (with_reducible refine Kd.C_drewN ?_ _) | (with_reducible refine Kd.C_drew ?_)))
                            (case aB => exact (by repeat (first | (with_reducible first | exact HB.out | apply below_alloc | apply pw_below_drewN | apply below_drew1) | exact HB.out)))
                            (case aF => exact (fun k_ hk => Kd.fresh' (Kd.R_lt (by (with_reducible repeat (first | apply Kd.R_alloc | apply Kd.R_drewN | apply Kd.R_drew)); exact HO302.out)) k_ hk))
                            (case aO => exact (by (with_reducible repeat (first | apply Kd.R_alloc | apply Kd.R_drewN | apply Kd.R_drew)); exact HO312.out))
                            (case aS => exact (below_size (by repeat (first | (with_reducible first | exact HB.out | apply below_alloc | apply pw_below_drewN | apply below_drew1) | exact HB.out))))
                            (case aL => have := LMc23.out; omega)
                            intro v318 w44 ho hb hg hat
                            rw [← Ny317.out] at ho
                            have n0_ := Aside0.mk (Kd.R_after (ok := (fun _ => True)) (by (with_reducible repeat (first | apply Kd.R_alloc | apply Kd.R_drewN | apply Kd.R_drew)); exact HO302.out) hg hat)
                            have n1_ := Aside0.mk (hb)
                            have n2_ := Aside0.mk (ho)
                            clear HO302
                            clear HB
                            clear HO312
                            have HO302 := n0_
                            have HB := n1_
                            have HO319 := n2_
                            clear n0_ n1_ n2_
                            clear ho hb hg hat
                            obtain ⟨Ao45, co45, eo45⟩ := Kd.R_slice HO319.out
                            (first | subst eo45 | (injection eo45 with f1_ f2_ f3_; have f4_ := f1_.symm; have f5_ := f3_.symm; clear f1_ f2_ f3_; subst f4_; subst f5_))
                            refine hK.out _ _ trivial (fun hHeld => ?_)
                            clear hK K
                            refine norm_ (a' := ?_) ?_ ?_
                            rotate_left
                            · show Act.put _ (some 39) _ = _
                              simp only [Act.put, List.setIfInBounds_toArray, List.set_cons_zero, List.set_cons_succ, i64_w, i32_w]
                              rfl
                            refine one_ (i := 9) (N := some 40) #[true, true, true, true, true, true, true, true, true, true, false] rfl rfl (one_of HT_.out (by kernel_rfl)) (by decide) (fun K hK => ?_)
                            refine goes_ Try.func18 (by kernel_rfl) rfl #[.slice Ao45 y317.length co45] (by rfl) rfl rfl (by (try simp only [List.map_toArray, List.map_cons, List.map_nil]); first | done | rfl | (simp only [List.length_drop, List.length_take]; rfl)) ?_
                            with_reducible refine (span_Norm.calls kj2 _ _ y317 t320 _ ?side1 ?side2 A24.out).mono ?_
                            (case side1 => repeat (first | exact (Kd.R_reads' HO319.out).2.2 | (with_reducible refine Kd.C_alloc ?_ _) | (with_reducible refine Kd.C_drewN ?_ _) | (with_reducible refine Kd.C_drew ?_)))
                            (case side2 => exact (Kd.R_reads' HO319.out).2.1)
                            rintro e w46 ⟨v321, rfl, ho0, hb⟩
                            refine ⟨_, rfl, ?_⟩
                            have n0_ := Aside0.mk (Kd.R_elder' (by (with_reducible repeat (first | apply Kd.R_alloc | apply Kd.R_drewN | apply Kd.R_drew)); exact HO302.out) (Kd.R_base ho0) hb)
                            have n1_ := Aside0.mk (Kd.R_elder' (by (with_reducible repeat (first | apply Kd.R_alloc | apply Kd.R_drewN | apply Kd.R_drew)); exact HO319.out) (Kd.R_base ho0) hb)
                            have n2_ := Aside0.mk (Kd.R_lower (Kd.R_new' (Kd.R_new' ho0 (Kd.R_lt (by (with_reducible repeat (first | apply Kd.R_alloc | apply Kd.R_drewN | apply Kd.R_drew)); exact HO302.out))) (Kd.R_lt (by (with_reducible repeat (first | apply Kd.R_alloc | apply Kd.R_drewN | apply Kd.R_drew)); exact HO319.out))) (below_size (by repeat (first | (with_reducible first | exact HB.out | apply below_alloc | apply pw_below_drewN | apply below_drew1) | exact HB.out))))
                            have n3_ := Aside0.mk (below_step (by repeat (first | (with_reducible first | exact HB.out | apply below_alloc | apply pw_below_drewN | apply below_drew1) | exact HB.out)) hb)
                            clear HO302
                            clear HO319
                            clear HB
                            have HO302 := n0_
                            have HO319 := n1_
                            have HO322 := n2_
                            have HB := n3_
                            clear n0_ n1_ n2_ n3_
                            (try clear hb)
                            (try clear hb2)
                            (try clear hk)
                            (try clear hi)
                            (try clear ho0)
                            refine hK.out _ _ trivial (fun hHeld => ?_)
                            clear hK K
                            refine norm_ (a' := ?_) ?_ ?_
                            rotate_left
                            · show Act.put _ (some 40) _ = _
                              simp only [Act.put, List.setIfInBounds_toArray, List.set_cons_zero, List.set_cons_succ, i64_w, i32_w]
                              rfl
                            refine pure_ (i := 10) (N := some 7) (v := ?_) (a' := ?_) #[true, true, true, true, true, true, true, true, true, true, true] rfl rfl (any_of HT_.out (by kernel_rfl)) (fun _ _ _ h => h) (Or.inl ⟨by rfl, ?_⟩) ?_ ?_
                            rotate_left
                            · intro w'
                              go_simp
                              with_reducible rfl
                            rotate_left
                            · simp only [Act.put, List.setIfInBounds_toArray, List.set_cons_zero, List.set_cons_succ, i64_w, i32_w]
                              rfl
                            refine done_ (done_of HT_.out (by kernel_rfl)) ?_
                            try go_wp2
                            have n0_ := Aside0.mk (Kd.R_drew HO302.out)
                            have n1_ := Aside0.mk (Kd.R_drew HO319.out)
                            have n2_ := Aside0.mk (Kd.R_drew HO322.out)
                            have n3_ := Aside0.mk (below_drew1 HB.out)
                            clear HO302
                            clear HO319
                            clear HO322
                            clear HB
                            have HO302 := n0_
                            have HO319 := n1_
                            have HO322 := n2_
                            have HB := n3_
                            clear n0_ n1_ n2_ n3_
                            have p323 : 0 ≤ ((ji17) : Int) := of_decide_eq_true (by first | (with_reducible assumption) | assumption)
                            have q323 : (ji17) < (l0.length : Int) := of_decide_eq_true (by first | (with_reducible assumption) | assumption)
                            obtain ⟨ad323, e323, hx323_0, hx323_1⟩ := at_T29 HR0.out (ji17) p323 q323
                            have hw323_1 := hx323_1
                            have hw323_0 := hx323_0
                            cases e323
                            replace hx323_0 := (HB.out.cell (World.block_lt_of_cell? w _ hx323_0)).trans hx323_0
                            replace hx323_1 := (HB.out.cell (World.block_lt_of_cell? w _ hx323_1)).trans hx323_1
                            replace p323 := eq_true p323
                            replace q323 := eq_true q323
                            have p327 : 0 ≤ ((ji17) : Int) := of_decide_eq_true (by first | (with_reducible assumption) | assumption)
                            have q327 : (ji17) < (l0.length : Int) := of_decide_eq_true (by first | (with_reducible assumption) | assumption)
                            obtain ⟨ad327, e327, hx327_0, hx327_1⟩ := at_T29 HR0.out (ji17) p327 q327
                            have hw327_1 := hx327_1
                            have hw327_0 := hx327_0
                            obtain rfl : ad323 = ad327 := (by injection e327)
                            replace hx327_0 := (HB.out.cell (World.block_lt_of_cell? w _ hx327_0)).trans hx327_0
                            replace hx327_1 := (HB.out.cell (World.block_lt_of_cell? w _ hx327_1)).trans hx327_1
                            replace p327 := eq_true p327
                            replace q327 := eq_true q327
                            refine start_ (n := 14) (S := fun w' => w'.cell? (ad323.add (((ji17)).toNat * 2)) = some (.int .i64 ((rd_T29 l0 (ji17)).f0)) ∧ w'.cell? ⟨(ad323.add (((ji17)).toNat * 2)).block, (ad323.add (((ji17)).toNat * 2)).off + 1, none⟩ = some (.int .i64 ((rd_T29 l0 (ji17)).f1)) ∧ w'.cell? (ad323.add (((ji17)).toNat * 2)) = some (.int .i64 ((rd_T29 l0 (ji17)).f0)) ∧ w'.cell? ⟨(ad323.add (((ji17)).toNat * 2)).block, (ad323.add (((ji17)).toNat * 2)).off + 1, none⟩ = some (.int .i64 ((rd_T29 l0 (ji17)).f1))) (ds := []) #[false, false, false, false, false, false, false, false, false, false, false, false, false, false] (by kernel_rfl) rfl rfl ⟨((HB.out.cell (World.block_lt_of_cell? w _ hw323_0)).trans hw323_0), ((HB.out.cell (World.block_lt_of_cell? w _ hw323_1)).trans hw323_1), ((HB.out.cell (World.block_lt_of_cell? w _ hw327_0)).trans hw327_0), ((HB.out.cell (World.block_lt_of_cell? w _ hw327_1)).trans hw327_1)⟩ (fun hHeld => ?_); refine with_tabW remontoirlaw04_SpanAgain.tab6 remontoirlaw04_SpanAgain.bits6 (fun HT_ HW_ => ?_)
                            generalize w46.drew = w47 at HO302 HO319 HO322 HB hx323_0 hx323_1 hx327_0 hx327_1 hHeld ⊢
                            refine pure_ (i := 0) (N := some 41) (v := ?_) (a' := ?_) #[true, false, false, false, false, false, false, false, false, false, false, false, false, false] rfl rfl (any_of HT_.out (by kernel_rfl)) (fun _ _ _ h => h) (Or.inl ⟨by rfl, ?_⟩) ?_ ?_
                            rotate_left
                            · intro w'
                              go_simp
                              with_reducible rfl
                            rotate_left
                            · simp only [Act.put, List.setIfInBounds_toArray, List.set_cons_zero, List.set_cons_succ, i64_w, i32_w]
                              rfl
                            refine pure_ (i := 1) (N := some 42) (v := ?_) (a' := ?_) #[true, true, false, false, false, false, false, false, false, false, false, false, false, false] rfl rfl (any_of HT_.out (by kernel_rfl)) (fun _ _ _ h => h) (Or.inl ⟨by rfl, ?_⟩) ?_ ?_
                            rotate_left
                            · intro w'
                              go_simp
                              with_reducible rfl
                            rotate_left
                            · simp only [Act.put, List.setIfInBounds_toArray, List.set_cons_zero, List.set_cons_succ, i64_w, i32_w]
                              rfl
                            refine pure_ (i := 2) (N := some 43) (v := ?_) (a' := ?_) #[true, true, true, false, false, false, false, false, false, false, false, false, false, false] rfl rfl (any_of HT_.out (by kernel_rfl)) (fun _ _ _ h => h) (Or.inl ⟨by rfl, ?_⟩) ?_ ?_
                            rotate_left
                            · intro w'
                              go_simp
                              with_reducible rfl
                            rotate_left
                            · simp only [Act.put, List.setIfInBounds_toArray, List.set_cons_zero, List.set_cons_succ, i64_w, i32_w]
                              rfl
                            refine pure_ (i := 3) (N := some 44) (v := ?_) (a' := ?_) #[true, true, true, true, false, false, false, false, false, false, false, false, false, false] rfl rfl (any_of HT_.out (by kernel_rfl)) (fun _ _ _ h => h) (Or.inl ⟨by rfl, ?_⟩) ?_ ?_
                            rotate_left
                            · intro w'
                              go_simp
                              with_reducible rfl
                            rotate_left
                            · simp only [Act.put, List.setIfInBounds_toArray, List.set_cons_zero, List.set_cons_succ, i64_w, i32_w]
                              rfl
                            refine pure_ (i := 6) (N := some 47) (v := ?_) (a' := ?_) #[true, true, true, true, false, false, true, false, false, false, false, false, false, false] rfl rfl (any_of HT_.out (by kernel_rfl)) (fun _ _ _ h => h) (Or.inl ⟨by rfl, ?_⟩) ?_ ?_
                            rotate_left
                            · intro w'
                              go_simp
                              with_reducible rfl
                            rotate_left
                            · simp only [Act.put, List.setIfInBounds_toArray, List.set_cons_zero, List.set_cons_succ, i64_w, i32_w]
                              rfl
                            refine pure_ (i := 7) (N := some 48) (v := ?_) (a' := ?_) #[true, true, true, true, false, false, true, true, false, false, false, false, false, false] rfl rfl (any_of HT_.out (by kernel_rfl)) (fun _ _ _ h => h) (Or.inl ⟨by rfl, ?_⟩) ?_ ?_
                            rotate_left
                            · intro w'
                              go_simp
                              with_reducible rfl
                            rotate_left
                            · simp only [Act.put, List.setIfInBounds_toArray, List.set_cons_zero, List.set_cons_succ, i64_w, i32_w]
                              rfl
                            refine pure_ (i := 8) (N := some 49) (v := ?_) (a' := ?_) #[true, true, true, true, false, false, true, true, true, false, false, false, false, false] rfl rfl (any_of HT_.out (by kernel_rfl)) (fun _ _ _ h => h) (Or.inl ⟨by rfl, ?_⟩) ?_ ?_
                            rotate_left
                            · intro w'
                              go_simp
                              with_reducible rfl
                            rotate_left
                            · simp only [Act.put, List.setIfInBounds_toArray, List.set_cons_zero, List.set_cons_succ, i64_w, i32_w]
                              rfl
                            refine take_ (i := 4) (N := some 45) (v := ?_) (a' := ?_) #[true, true, true, true, true, false, true, true, true, false, false, false, false, false] rfl rfl (take_ofW HT_.out HW_.out (by kernel_rfl)) (fun _ _ _ h => h) (Or.inl ⟨by rfl, ?_⟩) hHeld ?_ ?_
                            rotate_left
                            · rintro w' ⟨s0, s1, s2, s3⟩
                              go_simp
                              with_reducible rfl
                            rotate_left
                            · simp only [Act.put, List.setIfInBounds_toArray, List.set_cons_zero, List.set_cons_succ, i64_w, i32_w]
                              rfl
                            refine take_ (i := 9) (N := some 50) (v := ?_) (a' := ?_) #[true, true, true, true, true, false, true, true, true, true, false, false, false, false] rfl rfl (take_ofW HT_.out HW_.out (by kernel_rfl)) (fun _ _ _ h => h) (Or.inl ⟨by rfl, ?_⟩) hHeld ?_ ?_
                            rotate_left
                            · rintro w' ⟨s0, s1, s2, s3⟩
                              go_simp
                              with_reducible rfl
                            rotate_left
                            · simp only [Act.put, List.setIfInBounds_toArray, List.set_cons_zero, List.set_cons_succ, i64_w, i32_w]
                              rfl
                            refine join_ (σ := Value × Value) 3 #[true, true, true, true, true, true, true, true, true, true, true, false, false, false] (fun s_ => [(46, s_.1), (51, s_.2)]) (fun s_ w' => (w'.cell? (ad323.add (((ji17)).toNat * 2)) = some (.int .i64 ((rd_T29 l0 (ji17)).f0)) ∧ w'.cell? ⟨(ad323.add (((ji17)).toNat * 2)).block, (ad323.add (((ji17)).toNat * 2)).off + 1, none⟩ = some (.int .i64 ((rd_T29 l0 (ji17)).f1)) ∧ w'.cell? (ad323.add (((ji17)).toNat * 2)) = some (.int .i64 ((rd_T29 l0 (ji17)).f0)) ∧ w'.cell? ⟨(ad323.add (((ji17)).toNat * 2)).block, (ad323.add (((ji17)).toNat * 2)).off + 1, none⟩ = some (.int .i64 ((rd_T29 l0 (ji17)).f1))) ∧ (Kd.R k29 29 w' w.heap.size (fun k_ => some k_ ≠ (.slice Ao45 y317.length co45 : Value).ownBlock ∧ some k_ ≠ (v321 : Value).ownBlock ∧ some k_ ≠ (s_.1 : Value).ownBlock ∧ some k_ ≠ (s_.2 : Value).ownBlock) v301 t300) ∧ (Kd.R k29 29 w' w.heap.size (fun k_ => some k_ ≠ (v301 : Value).ownBlock ∧ some k_ ≠ (v321 : Value).ownBlock ∧ some k_ ≠ (s_.1 : Value).ownBlock ∧ some k_ ≠ (s_.2 : Value).ownBlock) (.slice Ao45 y317.length co45) y317) ∧ (Kd.R k29 29 w' w.heap.size (fun k_ => some k_ ≠ (v301 : Value).ownBlock ∧ some k_ ≠ (.slice Ao45 y317.length co45 : Value).ownBlock ∧ some k_ ≠ (s_.1 : Value).ownBlock ∧ some k_ ≠ (s_.2 : Value).ownBlock) v321 t320) ∧ (Kd.R k29 29 w' w.heap.size (fun k_ => some k_ ≠ (v301 : Value).ownBlock ∧ some k_ ≠ (.slice Ao45 y317.length co45 : Value).ownBlock ∧ some k_ ≠ (v321 : Value).ownBlock ∧ some k_ ≠ (s_.2 : Value).ownBlock) s_.1 t324) ∧ (Kd.R k29 29 w' w.heap.size (fun k_ => some k_ ≠ (v301 : Value).ownBlock ∧ some k_ ≠ (.slice Ao45 y317.length co45 : Value).ownBlock ∧ some k_ ≠ (v321 : Value).ownBlock ∧ some k_ ≠ (s_.1 : Value).ownBlock) s_.2 y328) ∧ (Below w.heap.size w w')) ?_ ?_
                            rotate_left
                            · intro hCont
                              refine two_ (i := 5) (j := 10) (Ni := some 46) (Nj := some 51) #[true, true, true, true, true, true, true, true, true, true, false, false, false, false] #[true, true, true, true, true, false, true, true, true, true, true, false, false, false] rfl rfl rfl rfl (two_of HT_.out (by kernel_rfl)) (by decide) (by decide) (fun K hK => ?_) (fun K hK => ?_)
                              · skip
                                refine goes_ Try.func35 (by kernel_rfl) rfl #[.slice (some ad323) l0.length c0, .agg #[.int .i64 ((rd_T29 l0 (ji17)).f0), .int .i64 ((rd_T29 l0 (ji17)).f1)]] (by rfl) rfl rfl (by (try simp only [List.map_toArray, List.map_cons, List.map_nil]); first | done | (simp only [hji17]; rfl) | rfl | (simp only [List.length_drop, List.length_take]; rfl)) ?_
                                with_reducible refine (span_Without.calls kj2 _ _ l0 ((rd_T29 l0 (ji17)).f0) ((rd_T29 l0 (ji17)).f1) t324 _ ?side1 ?side2 A26.out).mono ?_
                                (case side1 => repeat (first | exact (Kd.C_below HR0.out HB.out) | (with_reducible refine Kd.C_alloc ?_ _) | (with_reducible refine Kd.C_drewN ?_ _) | (with_reducible refine Kd.C_drew ?_)))
                                (case side2 => exact HC0.out)
                                rintro e w48 ⟨v325, rfl, ho0, hb⟩
                                refine ⟨_, rfl, ?_⟩
                                have n0_ := Aside0.mk (Kd.R_elder' (by (with_reducible repeat (first | apply Kd.R_alloc | apply Kd.R_drewN | apply Kd.R_drew)); exact HO302.out) (Kd.R_base ho0) hb)
                                have n1_ := Aside0.mk (Kd.R_elder' (by (with_reducible repeat (first | apply Kd.R_alloc | apply Kd.R_drewN | apply Kd.R_drew)); exact HO319.out) (Kd.R_base ho0) hb)
                                have n2_ := Aside0.mk (Kd.R_elder' (by (with_reducible repeat (first | apply Kd.R_alloc | apply Kd.R_drewN | apply Kd.R_drew)); exact HO322.out) (Kd.R_base ho0) hb)
                                have n3_ := Aside0.mk (Kd.R_lower (Kd.R_new' (Kd.R_new' (Kd.R_new' ho0 (Kd.R_lt (by (with_reducible repeat (first | apply Kd.R_alloc | apply Kd.R_drewN | apply Kd.R_drew)); exact HO302.out))) (Kd.R_lt (by (with_reducible repeat (first | apply Kd.R_alloc | apply Kd.R_drewN | apply Kd.R_drew)); exact HO319.out))) (Kd.R_lt (by (with_reducible repeat (first | apply Kd.R_alloc | apply Kd.R_drewN | apply Kd.R_drew)); exact HO322.out))) (below_size (by repeat (first | (with_reducible first | exact HB.out | apply below_alloc | apply pw_below_drewN | apply below_drew1) | exact HB.out))))
                                have n4_ := Aside0.mk (below_step (by repeat (first | (with_reducible first | exact HB.out | apply below_alloc | apply pw_below_drewN | apply below_drew1) | exact HB.out)) hb)
                                clear HO302
                                clear HO319
                                clear HO322
                                clear HB
                                have HO302 := n0_
                                have HO319 := n1_
                                have HO322 := n2_
                                have HO326 := n3_
                                have HB := n4_
                                clear n0_ n1_ n2_ n3_ n4_
                                (try clear hb)
                                (try clear hb2)
                                (try clear hk)
                                (try clear hi)
                                (try clear ho0)
                                refine hK.out _ _ ⟨((HB.out.cell (World.block_lt_of_cell? w _ hw323_0)).trans hw323_0), ((HB.out.cell (World.block_lt_of_cell? w _ hw323_1)).trans hw323_1), ((HB.out.cell (World.block_lt_of_cell? w _ hw327_0)).trans hw327_0), ((HB.out.cell (World.block_lt_of_cell? w _ hw327_1)).trans hw327_1)⟩ (fun hHeld => ?_)
                                clear hK K
                                refine norm_ (a' := ?_) ?_ ?_
                                rotate_left
                                · show Act.put _ (some 46) _ = _
                                  simp only [Act.put, List.setIfInBounds_toArray, List.set_cons_zero, List.set_cons_succ, i64_w, i32_w]
                                  rfl
                                refine one_ (i := 10) (N := some 51) #[true, true, true, true, true, true, true, true, true, true, true, false, false, false] rfl rfl (one_of HT_.out (by kernel_rfl)) (by decide) (fun K hK => ?_)
                                refine Kd.R_lit_step k29 _ 29 ?hg (N := 51) ?hd (xs := ([(⟨(rd_T29 l0 (ji17)).f0, (rd_T29 l0 (ji17)).f1⟩ : S29)] : List (S29))) (inner := [.int .i64 ((rd_T29 l0 (ji17)).f0), .int .i64 ((rd_T29 l0 (ji17)).f1)]) (ok := fun _ => True) (okp := fun _ => True) ?hr ?hp (fun _ hk => hk) trivial (Below.refl _ _) (Nat.le_refl _) (by simp) ?_; (case hd => rfl); (case hg => rfl); (case hr => first | (go_simp; done) | (go_simp; rfl)); (case hp => exact (Reps.c2 (show Kd.M k29 _ _ _ (⟨(rd_T29 l0 (ji17)).f0, (rd_T29 l0 (ji17)).f1⟩ : S29) [.int .i64 ((rd_T29 l0 (ji17)).f0), .int .i64 ((rd_T29 l0 (ji17)).f1)] from (k29_mkM _ _ _ (⟨(rd_T29 l0 (ji17)).f0, (rd_T29 l0 (ji17)).f1⟩ : S29) )) (Reps.none _ _)))
                                intro v329 w49 ho50 hb hg_ hnew_
                                clear hg_ hnew_
                                (first | rw [← Ny328.out] at ho50 | (simp only [Int.reduceToNat] at ho50; rw [← Ny328.out] at ho50))
                                have n0_ := Aside0.mk (Kd.R_elder' (by (with_reducible repeat (first | apply Kd.R_alloc | apply Kd.R_drewN | apply Kd.R_drew)); exact HO302.out) (Kd.R_base ho50) hb)
                                have n1_ := Aside0.mk (Kd.R_elder' (by (with_reducible repeat (first | apply Kd.R_alloc | apply Kd.R_drewN | apply Kd.R_drew)); exact HO319.out) (Kd.R_base ho50) hb)
                                have n2_ := Aside0.mk (Kd.R_elder' (by (with_reducible repeat (first | apply Kd.R_alloc | apply Kd.R_drewN | apply Kd.R_drew)); exact HO322.out) (Kd.R_base ho50) hb)
                                have n3_ := Aside0.mk (Kd.R_elder' (by (with_reducible repeat (first | apply Kd.R_alloc | apply Kd.R_drewN | apply Kd.R_drew)); exact HO326.out) (Kd.R_base ho50) hb)
                                have n4_ := Aside0.mk (Kd.R_lower (Kd.R_new' (Kd.R_new' (Kd.R_new' (Kd.R_new' ho50 (Kd.R_lt (by (with_reducible repeat (first | apply Kd.R_alloc | apply Kd.R_drewN | apply Kd.R_drew)); exact HO302.out))) (Kd.R_lt (by (with_reducible repeat (first | apply Kd.R_alloc | apply Kd.R_drewN | apply Kd.R_drew)); exact HO319.out))) (Kd.R_lt (by (with_reducible repeat (first | apply Kd.R_alloc | apply Kd.R_drewN | apply Kd.R_drew)); exact HO322.out))) (Kd.R_lt (by (with_reducible repeat (first | apply Kd.R_alloc | apply Kd.R_drewN | apply Kd.R_drew)); exact HO326.out))) (below_size (by repeat (first | (with_reducible first | exact HB.out | apply below_alloc | apply pw_below_drewN | apply below_drew1) | exact HB.out))))
                                have n5_ := Aside0.mk (below_step (by repeat (first | (with_reducible first | exact HB.out | apply below_alloc | apply pw_below_drewN | apply below_drew1) | exact HB.out)) hb)
                                clear HO302
                                clear HO319
                                clear HO322
                                clear HO326
                                clear HB
                                have HO302 := n0_
                                have HO319 := n1_
                                have HO322 := n2_
                                have HO326 := n3_
                                have HO330 := n4_
                                have HB := n5_
                                clear n0_ n1_ n2_ n3_ n4_ n5_
                                clear hb ho50
                                refine hK.out _ _ ⟨((HB.out.cell (World.block_lt_of_cell? w _ hw323_0)).trans hw323_0), ((HB.out.cell (World.block_lt_of_cell? w _ hw323_1)).trans hw323_1), ((HB.out.cell (World.block_lt_of_cell? w _ hw327_0)).trans hw327_0), ((HB.out.cell (World.block_lt_of_cell? w _ hw327_1)).trans hw327_1)⟩ (fun hHeld => ?_)
                                clear hK K
                                refine norm_ (a' := ?_) ?_ ?_
                                rotate_left
                                · show Act.put _ (some 51) _ = _
                                  simp only [Act.put, List.setIfInBounds_toArray, List.set_cons_zero, List.set_cons_succ, i64_w, i32_w]
                                  rfl
                                exact norm_ (by simp only [putAll, Act.put, List.setIfInBounds_toArray, List.set_cons_zero, List.set_cons_succ]) (hCont (v325, v329) _ ⟨hHeld, (by (with_reducible repeat (first | apply Kd.R_alloc | apply Kd.R_drewN | apply Kd.R_drew)); exact Kd.R_mono HO302.out (fun _ hk => ⟨hk.1.1.1.2, ⟨hk.1.1.2, ⟨hk.1.2, hk.2⟩⟩⟩)), (by (with_reducible repeat (first | apply Kd.R_alloc | apply Kd.R_drewN | apply Kd.R_drew)); exact Kd.R_mono HO319.out (fun _ hk => ⟨hk.1.1.1, ⟨hk.1.1.2, ⟨hk.1.2, hk.2⟩⟩⟩)), (by (with_reducible repeat (first | apply Kd.R_alloc | apply Kd.R_drewN | apply Kd.R_drew)); exact Kd.R_mono HO322.out (fun _ hk => ⟨hk.1.1.1.2, ⟨hk.1.1.2, ⟨hk.1.2, hk.2⟩⟩⟩)), (by (with_reducible repeat (first | apply Kd.R_alloc | apply Kd.R_drewN | apply Kd.R_drew)); exact Kd.R_mono HO326.out (fun _ hk => ⟨hk.1.1.1.2, ⟨hk.1.1.2, ⟨hk.1.2, hk.2⟩⟩⟩)), (by (with_reducible repeat (first | apply Kd.R_alloc | apply Kd.R_drewN | apply Kd.R_drew)); exact Kd.R_mono HO330.out (fun _ hk => ⟨hk.1.1.1.2, ⟨hk.1.1.2, ⟨hk.1.2, hk.2⟩⟩⟩)), (by repeat (first | (with_reducible first | exact HB.out | apply below_alloc | apply pw_below_drewN | apply below_drew1) | exact HB.out))⟩)
                              · skip
                                refine Kd.R_lit_step k29 _ 29 ?hg (N := 51) ?hd (xs := ([(⟨(rd_T29 l0 (ji17)).f0, (rd_T29 l0 (ji17)).f1⟩ : S29)] : List (S29))) (inner := [.int .i64 ((rd_T29 l0 (ji17)).f0), .int .i64 ((rd_T29 l0 (ji17)).f1)]) (ok := fun _ => True) (okp := fun _ => True) ?hr ?hp (fun _ hk => hk) trivial (Below.refl _ _) (Nat.le_refl _) (by simp) ?_; (case hd => rfl); (case hg => rfl); (case hr => first | (go_simp; done) | (go_simp; rfl)); (case hp => exact (Reps.c2 (show Kd.M k29 _ _ _ (⟨(rd_T29 l0 (ji17)).f0, (rd_T29 l0 (ji17)).f1⟩ : S29) [.int .i64 ((rd_T29 l0 (ji17)).f0), .int .i64 ((rd_T29 l0 (ji17)).f1)] from (k29_mkM _ _ _ (⟨(rd_T29 l0 (ji17)).f0, (rd_T29 l0 (ji17)).f1⟩ : S29) )) (Reps.none _ _)))
                                intro v329 w48 ho49 hb hg_ hnew_
                                clear hg_ hnew_
                                (first | rw [← Ny328.out] at ho49 | (simp only [Int.reduceToNat] at ho49; rw [← Ny328.out] at ho49))
                                have n0_ := Aside0.mk (Kd.R_elder' (by (with_reducible repeat (first | apply Kd.R_alloc | apply Kd.R_drewN | apply Kd.R_drew)); exact HO302.out) (Kd.R_base ho49) hb)
                                have n1_ := Aside0.mk (Kd.R_elder' (by (with_reducible repeat (first | apply Kd.R_alloc | apply Kd.R_drewN | apply Kd.R_drew)); exact HO319.out) (Kd.R_base ho49) hb)
                                have n2_ := Aside0.mk (Kd.R_elder' (by (with_reducible repeat (first | apply Kd.R_alloc | apply Kd.R_drewN | apply Kd.R_drew)); exact HO322.out) (Kd.R_base ho49) hb)
                                have n3_ := Aside0.mk (Kd.R_lower (Kd.R_new' (Kd.R_new' (Kd.R_new' ho49 (Kd.R_lt (by (with_reducible repeat (first | apply Kd.R_alloc | apply Kd.R_drewN | apply Kd.R_drew)); exact HO302.out))) (Kd.R_lt (by (with_reducible repeat (first | apply Kd.R_alloc | apply Kd.R_drewN | apply Kd.R_drew)); exact HO319.out))) (Kd.R_lt (by (with_reducible repeat (first | apply Kd.R_alloc | apply Kd.R_drewN | apply Kd.R_drew)); exact HO322.out))) (below_size (by repeat (first | (with_reducible first | exact HB.out | apply below_alloc | apply pw_below_drewN | apply below_drew1) | exact HB.out))))
                                have n4_ := Aside0.mk (below_step (by repeat (first | (with_reducible first | exact HB.out | apply below_alloc | apply pw_below_drewN | apply below_drew1) | exact HB.out)) hb)
                                clear HO302
                                clear HO319
                                clear HO322
                                clear HB
                                have HO302 := n0_
                                have HO319 := n1_
                                have HO322 := n2_
                                have HO330 := n3_
                                have HB := n4_
                                clear n0_ n1_ n2_ n3_ n4_
                                clear hb ho49
                                refine hK.out _ _ ⟨((HB.out.cell (World.block_lt_of_cell? w _ hw323_0)).trans hw323_0), ((HB.out.cell (World.block_lt_of_cell? w _ hw323_1)).trans hw323_1), ((HB.out.cell (World.block_lt_of_cell? w _ hw327_0)).trans hw327_0), ((HB.out.cell (World.block_lt_of_cell? w _ hw327_1)).trans hw327_1)⟩ (fun hHeld => ?_)
                                clear hK K
                                refine norm_ (a' := ?_) ?_ ?_
                                rotate_left
                                · show Act.put _ (some 51) _ = _
                                  simp only [Act.put, List.setIfInBounds_toArray, List.set_cons_zero, List.set_cons_succ, i64_w, i32_w]
                                  rfl
                                refine one_ (i := 5) (N := some 46) #[true, true, true, true, true, true, true, true, true, true, true, false, false, false] rfl rfl (one_of HT_.out (by kernel_rfl)) (by decide) (fun K hK => ?_)
                                refine goes_ Try.func35 (by kernel_rfl) rfl #[.slice (some ad323) l0.length c0, .agg #[.int .i64 ((rd_T29 l0 (ji17)).f0), .int .i64 ((rd_T29 l0 (ji17)).f1)]] (by rfl) rfl rfl (by (try simp only [List.map_toArray, List.map_cons, List.map_nil]); first | done | (simp only [hji17]; rfl) | rfl | (simp only [List.length_drop, List.length_take]; rfl)) ?_
                                with_reducible refine (span_Without.calls kj2 _ _ l0 ((rd_T29 l0 (ji17)).f0) ((rd_T29 l0 (ji17)).f1) t324 _ ?side1 ?side2 A26.out).mono ?_
                                (case side1 => repeat (first | exact (Kd.C_below HR0.out HB.out) | (with_reducible refine Kd.C_alloc ?_ _) | (with_reducible refine Kd.C_drewN ?_ _) | (with_reducible refine Kd.C_drew ?_)))
                                (case side2 => exact HC0.out)
                                rintro e w50 ⟨v325, rfl, ho0, hb⟩
                                refine ⟨_, rfl, ?_⟩
                                have n0_ := Aside0.mk (Kd.R_elder' (by (with_reducible repeat (first | apply Kd.R_alloc | apply Kd.R_drewN | apply Kd.R_drew)); exact HO302.out) (Kd.R_base ho0) hb)
                                have n1_ := Aside0.mk (Kd.R_elder' (by (with_reducible repeat (first | apply Kd.R_alloc | apply Kd.R_drewN | apply Kd.R_drew)); exact HO319.out) (Kd.R_base ho0) hb)
                                have n2_ := Aside0.mk (Kd.R_elder' (by (with_reducible repeat (first | apply Kd.R_alloc | apply Kd.R_drewN | apply Kd.R_drew)); exact HO322.out) (Kd.R_base ho0) hb)
                                have n3_ := Aside0.mk (Kd.R_elder' (by (with_reducible repeat (first | apply Kd.R_alloc | apply Kd.R_drewN | apply Kd.R_drew)); exact HO330.out) (Kd.R_base ho0) hb)
                                have n4_ := Aside0.mk (Kd.R_lower (Kd.R_new' (Kd.R_new' (Kd.R_new' (Kd.R_new' ho0 (Kd.R_lt (by (with_reducible repeat (first | apply Kd.R_alloc | apply Kd.R_drewN | apply Kd.R_drew)); exact HO302.out))) (Kd.R_lt (by (with_reducible repeat (first | apply Kd.R_alloc | apply Kd.R_drewN | apply Kd.R_drew)); exact HO319.out))) (Kd.R_lt (by (with_reducible repeat (first | apply Kd.R_alloc | apply Kd.R_drewN | apply Kd.R_drew)); exact HO322.out))) (Kd.R_lt (by (with_reducible repeat (first | apply Kd.R_alloc | apply Kd.R_drewN | apply Kd.R_drew)); exact HO330.out))) (below_size (by repeat (first | (with_reducible first | exact HB.out | apply below_alloc | apply pw_below_drewN | apply below_drew1) | exact HB.out))))
                                have n5_ := Aside0.mk (below_step (by repeat (first | (with_reducible first | exact HB.out | apply below_alloc | apply pw_below_drewN | apply below_drew1) | exact HB.out)) hb)
                                clear HO302
                                clear HO319
                                clear HO322
                                clear HO330
                                clear HB
                                have HO302 := n0_
                                have HO319 := n1_
                                have HO322 := n2_
                                have HO330 := n3_
                                have HO326 := n4_
                                have HB := n5_
                                clear n0_ n1_ n2_ n3_ n4_ n5_
                                (try clear hb)
                                (try clear hb2)
                                (try clear hk)
                                (try clear hi)
                                (try clear ho0)
                                refine hK.out _ _ ⟨((HB.out.cell (World.block_lt_of_cell? w _ hw323_0)).trans hw323_0), ((HB.out.cell (World.block_lt_of_cell? w _ hw323_1)).trans hw323_1), ((HB.out.cell (World.block_lt_of_cell? w _ hw327_0)).trans hw327_0), ((HB.out.cell (World.block_lt_of_cell? w _ hw327_1)).trans hw327_1)⟩ (fun hHeld => ?_)
                                clear hK K
                                refine norm_ (a' := ?_) ?_ ?_
                                rotate_left
                                · show Act.put _ (some 46) _ = _
                                  simp only [Act.put, List.setIfInBounds_toArray, List.set_cons_zero, List.set_cons_succ, i64_w, i32_w]
                                  rfl
                                exact norm_ (by simp only [putAll, Act.put, List.setIfInBounds_toArray, List.set_cons_zero, List.set_cons_succ]) (hCont (v325, v329) _ ⟨hHeld, (by (with_reducible repeat (first | apply Kd.R_alloc | apply Kd.R_drewN | apply Kd.R_drew)); exact Kd.R_mono HO302.out (fun _ hk => ⟨hk.1.1.1.2, ⟨hk.1.1.2, ⟨hk.2, hk.1.2⟩⟩⟩)), (by (with_reducible repeat (first | apply Kd.R_alloc | apply Kd.R_drewN | apply Kd.R_drew)); exact Kd.R_mono HO319.out (fun _ hk => ⟨hk.1.1.1, ⟨hk.1.1.2, ⟨hk.2, hk.1.2⟩⟩⟩)), (by (with_reducible repeat (first | apply Kd.R_alloc | apply Kd.R_drewN | apply Kd.R_drew)); exact Kd.R_mono HO322.out (fun _ hk => ⟨hk.1.1.1.2, ⟨hk.1.1.2, ⟨hk.2, hk.1.2⟩⟩⟩)), (by (with_reducible repeat (first | apply Kd.R_alloc | apply Kd.R_drewN | apply Kd.R_drew)); exact Kd.R_mono HO326.out (fun _ hk => ⟨hk.1.1.1.2, ⟨hk.1.1.2, ⟨hk.1.2, hk.2⟩⟩⟩)), (by (with_reducible repeat (first | apply Kd.R_alloc | apply Kd.R_drewN | apply Kd.R_drew)); exact Kd.R_mono HO330.out (fun _ hk => ⟨hk.1.1.1.2, ⟨hk.1.1.2, ⟨hk.1.2, hk.2⟩⟩⟩)), (by repeat (first | (with_reducible first | exact HB.out | apply below_alloc | apply pw_below_drewN | apply below_drew1) | exact HB.out))⟩)
                            rintro ⟨v325, v329⟩ w51 ⟨hS_, h0_, h1_, h2_, h3_, h4_, h5_⟩
                            have n0_ : Aside0 (Kd.R k29 29 w51 w.heap.size (fun k_ => some k_ ≠ (.slice Ao45 y317.length co45 : Value).ownBlock ∧ some k_ ≠ (v321 : Value).ownBlock ∧ some k_ ≠ (v325 : Value).ownBlock ∧ some k_ ≠ (v329 : Value).ownBlock) v301 t300) := ⟨h0_⟩
                            have n1_ : Aside0 (Kd.R k29 29 w51 w.heap.size (fun k_ => some k_ ≠ (v301 : Value).ownBlock ∧ some k_ ≠ (v321 : Value).ownBlock ∧ some k_ ≠ (v325 : Value).ownBlock ∧ some k_ ≠ (v329 : Value).ownBlock) (.slice Ao45 y317.length co45) y317) := ⟨h1_⟩
                            have n2_ : Aside0 (Kd.R k29 29 w51 w.heap.size (fun k_ => some k_ ≠ (v301 : Value).ownBlock ∧ some k_ ≠ (.slice Ao45 y317.length co45 : Value).ownBlock ∧ some k_ ≠ (v325 : Value).ownBlock ∧ some k_ ≠ (v329 : Value).ownBlock) v321 t320) := ⟨h2_⟩
                            have n3_ : Aside0 (Kd.R k29 29 w51 w.heap.size (fun k_ => some k_ ≠ (v301 : Value).ownBlock ∧ some k_ ≠ (.slice Ao45 y317.length co45 : Value).ownBlock ∧ some k_ ≠ (v321 : Value).ownBlock ∧ some k_ ≠ (v329 : Value).ownBlock) v325 t324) := ⟨h3_⟩
                            have n4_ : Aside0 (Kd.R k29 29 w51 w.heap.size (fun k_ => some k_ ≠ (v301 : Value).ownBlock ∧ some k_ ≠ (.slice Ao45 y317.length co45 : Value).ownBlock ∧ some k_ ≠ (v321 : Value).ownBlock ∧ some k_ ≠ (v325 : Value).ownBlock) v329 y328) := ⟨h4_⟩
                            have n5_ : Aside0 (Below w.heap.size w w51) := ⟨h5_⟩
                            clear HO302
                            clear HO319
                            clear HO322
                            clear HB
                            clear h0_ h1_ h2_ h3_ h4_ h5_
                            have HO302 := n0_
                            have HO319 := n1_
                            have HO322 := n2_
                            have HO326 := n3_
                            have HO330 := n4_
                            have HB := n5_
                            clear n0_ n1_ n2_ n3_ n4_ n5_
                            have hHeld : w51.cell? (ad323.add (((ji17)).toNat * 2)) = some (.int .i64 ((rd_T29 l0 (ji17)).f0)) ∧ w51.cell? ⟨(ad323.add (((ji17)).toNat * 2)).block, (ad323.add (((ji17)).toNat * 2)).off + 1, none⟩ = some (.int .i64 ((rd_T29 l0 (ji17)).f1)) ∧ w51.cell? (ad323.add (((ji17)).toNat * 2)) = some (.int .i64 ((rd_T29 l0 (ji17)).f0)) ∧ w51.cell? ⟨(ad323.add (((ji17)).toNat * 2)).block, (ad323.add (((ji17)).toNat * 2)).off + 1, none⟩ = some (.int .i64 ((rd_T29 l0 (ji17)).f1)) := hS_
                            obtain ⟨Ao53, co53, eo53⟩ := Kd.R_slice HO330.out
                            (first | subst eo53 | (injection eo53 with f1_ f2_ f3_; have f4_ := f1_.symm; have f5_ := f3_.symm; clear f1_ f2_ f3_; subst f4_; subst f5_))
                            refine norm_ (a' := ?_) ?_ ?_
                            rotate_left
                            · simp only [putAll, Act.put, List.setIfInBounds_toArray, List.set_cons_zero, List.set_cons_succ]
                              rfl
                            refine one_ (i := 11) (N := some 52) #[true, true, true, true, true, true, true, true, true, true, true, true, false, false] rfl rfl (one_of HT_.out (by kernel_rfl)) (by decide) (fun K hK => ?_)
                            refine Kd.R_append_rows_step k29 (w0 := w) w.heap.size (by rfl) (.tmp 46) (.tmp 51) 22 29 (.agg #[(.int .i64 0), (.int .i64 0)]) 16 rfl Try.underlying22 info29 rfl (by decide) (by omega) v325 t324 y328 _ _ _ (fun k_ => some k_ ≠ (v301 : Value).ownBlock ∧ some k_ ≠ (.slice Ao45 y317.length co45 : Value).ownBlock ∧ some k_ ≠ (v321 : Value).ownBlock ∧ some k_ ≠ (.slice Ao53 y328.length co53 : Value).ownBlock) (fun _ => False) rfl rfl ?aO ?aR (fun _ _ h => h) (fun _ h => h.elim) ?aF ?aB ?aS ?aL ?_
                            (case aR => repeat (first | exact (Kd.R_reads' HO330.out).2.2 | (with_reducible refine Kd.C_alloc ?_ _) | (with_reducible refine Kd.C_drewN ?_ _) | (with_reducible refine Kd.C_drew ?_)))
                            (case aB => exact (by repeat (first | (with_reducible first | exact HB.out | apply below_alloc | apply pw_below_drewN | apply below_drew1) | exact HB.out)))
                            (case aF => exact (fun k_ hk => ⟨Kd.fresh' (Kd.R_lt (by (with_reducible repeat (first | apply Kd.R_alloc | apply Kd.R_drewN | apply Kd.R_drew)); exact HO302.out)) k_ hk, Kd.fresh' (Kd.R_lt (by (with_reducible repeat (first | apply Kd.R_alloc | apply Kd.R_drewN | apply Kd.R_drew)); exact HO319.out)) k_ hk, Kd.fresh' (Kd.R_lt (by (with_reducible repeat (first | apply Kd.R_alloc | apply Kd.R_drewN | apply Kd.R_drew)); exact HO322.out)) k_ hk, Kd.fresh' (Kd.R_lt (by (with_reducible repeat (first | apply Kd.R_alloc | apply Kd.R_drewN | apply Kd.R_drew)); exact HO330.out)) k_ hk⟩))
                            (case aO => exact (by (with_reducible repeat (first | apply Kd.R_alloc | apply Kd.R_drewN | apply Kd.R_drew)); exact HO326.out))
                            (case aS => exact (below_size (by repeat (first | (with_reducible first | exact HB.out | apply below_alloc | apply pw_below_drewN | apply below_drew1) | exact HB.out))))
                            (case aL => have := LMc27.out; omega)
                            intro v332 w52 ho hb hg hat
                            rw [← Ny331.out] at ho
                            have n0_ := Aside0.mk (Kd.R_after (ok := (fun k_ => some k_ ≠ (.slice Ao45 y317.length co45 : Value).ownBlock ∧ some k_ ≠ (v321 : Value).ownBlock ∧ some k_ ≠ (.slice Ao53 y328.length co53 : Value).ownBlock)) (by (with_reducible repeat (first | apply Kd.R_alloc | apply Kd.R_drewN | apply Kd.R_drew)); exact Kd.R_mono HO302.out (fun _ hk => ⟨⟨hk.1, ⟨hk.2.1, hk.2.2.2⟩⟩, hk.2.2.1⟩)) hg hat)
                            have n1_ := Aside0.mk (Kd.R_after (ok := (fun k_ => some k_ ≠ (v301 : Value).ownBlock ∧ some k_ ≠ (v321 : Value).ownBlock ∧ some k_ ≠ (.slice Ao53 y328.length co53 : Value).ownBlock)) (by (with_reducible repeat (first | apply Kd.R_alloc | apply Kd.R_drewN | apply Kd.R_drew)); exact Kd.R_mono HO319.out (fun _ hk => ⟨⟨hk.1, ⟨hk.2.1, hk.2.2.2⟩⟩, hk.2.2.1⟩)) hg hat)
                            have n2_ := Aside0.mk (Kd.R_after (ok := (fun k_ => some k_ ≠ (v301 : Value).ownBlock ∧ some k_ ≠ (.slice Ao45 y317.length co45 : Value).ownBlock ∧ some k_ ≠ (.slice Ao53 y328.length co53 : Value).ownBlock)) (by (with_reducible repeat (first | apply Kd.R_alloc | apply Kd.R_drewN | apply Kd.R_drew)); exact Kd.R_mono HO322.out (fun _ hk => ⟨⟨hk.1, ⟨hk.2.1, hk.2.2.2⟩⟩, hk.2.2.1⟩)) hg hat)
                            have n3_ := Aside0.mk (Kd.R_after (ok := (fun k_ => some k_ ≠ (v301 : Value).ownBlock ∧ some k_ ≠ (.slice Ao45 y317.length co45 : Value).ownBlock ∧ some k_ ≠ (v321 : Value).ownBlock)) (by (with_reducible repeat (first | apply Kd.R_alloc | apply Kd.R_drewN | apply Kd.R_drew)); exact Kd.R_mono HO330.out (fun _ hk => ⟨⟨hk.1, ⟨hk.2.1, hk.2.2.1⟩⟩, hk.2.2.2⟩)) hg hat)
                            have n4_ := Aside0.mk (hb)
                            have n5_ := Aside0.mk (ho)
                            clear HO302
                            clear HO319
                            clear HO322
                            clear HO330
                            clear HB
                            clear HO326
                            have HO302 := n0_
                            have HO319 := n1_
                            have HO322 := n2_
                            have HO330 := n3_
                            have HB := n4_
                            have HO333 := n5_
                            clear n0_ n1_ n2_ n3_ n4_ n5_
                            clear ho hb hg hat
                            obtain ⟨Ao54, co54, eo54⟩ := Kd.R_slice HO333.out
                            (first | subst eo54 | (injection eo54 with f1_ f2_ f3_; have f4_ := f1_.symm; have f5_ := f3_.symm; clear f1_ f2_ f3_; subst f4_; subst f5_))
                            refine hK.out _ _ ⟨((HB.out.cell (World.block_lt_of_cell? w _ hw323_0)).trans hw323_0), ((HB.out.cell (World.block_lt_of_cell? w _ hw323_1)).trans hw323_1), ((HB.out.cell (World.block_lt_of_cell? w _ hw327_0)).trans hw327_0), ((HB.out.cell (World.block_lt_of_cell? w _ hw327_1)).trans hw327_1)⟩ (fun hHeld => ?_)
                            clear hK K
                            refine norm_ (a' := ?_) ?_ ?_
                            rotate_left
                            · show Act.put _ (some 52) _ = _
                              simp only [Act.put, List.setIfInBounds_toArray, List.set_cons_zero, List.set_cons_succ, i64_w, i32_w]
                              rfl
                            refine one_ (i := 12) (N := some 53) #[true, true, true, true, true, true, true, true, true, true, true, true, true, false] rfl rfl (one_of HT_.out (by kernel_rfl)) (by decide) (fun K hK => ?_)
                            refine goes_ Try.func18 (by kernel_rfl) rfl #[.slice Ao54 y331.length co54] (by rfl) rfl rfl (by (try simp only [List.map_toArray, List.map_cons, List.map_nil]); first | done | rfl | (simp only [List.length_drop, List.length_take]; rfl)) ?_
                            with_reducible refine (span_Norm.calls kj2 _ _ y331 t334 _ ?side1 ?side2 A28.out).mono ?_
                            (case side1 => repeat (first | exact (Kd.R_reads' HO333.out).2.2 | (with_reducible refine Kd.C_alloc ?_ _) | (with_reducible refine Kd.C_drewN ?_ _) | (with_reducible refine Kd.C_drew ?_)))
                            (case side2 => exact (Kd.R_reads' HO333.out).2.1)
                            rintro e w55 ⟨v335, rfl, ho0, hb⟩
                            refine ⟨_, rfl, ?_⟩
                            have n0_ := Aside0.mk (Kd.R_elder' (by (with_reducible repeat (first | apply Kd.R_alloc | apply Kd.R_drewN | apply Kd.R_drew)); exact HO302.out) (Kd.R_base ho0) hb)
                            have n1_ := Aside0.mk (Kd.R_elder' (by (with_reducible repeat (first | apply Kd.R_alloc | apply Kd.R_drewN | apply Kd.R_drew)); exact HO319.out) (Kd.R_base ho0) hb)
                            have n2_ := Aside0.mk (Kd.R_elder' (by (with_reducible repeat (first | apply Kd.R_alloc | apply Kd.R_drewN | apply Kd.R_drew)); exact HO322.out) (Kd.R_base ho0) hb)
                            have n3_ := Aside0.mk (Kd.R_elder' (by (with_reducible repeat (first | apply Kd.R_alloc | apply Kd.R_drewN | apply Kd.R_drew)); exact HO330.out) (Kd.R_base ho0) hb)
                            have n4_ := Aside0.mk (Kd.R_elder' (by (with_reducible repeat (first | apply Kd.R_alloc | apply Kd.R_drewN | apply Kd.R_drew)); exact HO333.out) (Kd.R_base ho0) hb)
                            have n5_ := Aside0.mk (Kd.R_lower (Kd.R_new' (Kd.R_new' (Kd.R_new' (Kd.R_new' (Kd.R_new' ho0 (Kd.R_lt (by (with_reducible repeat (first | apply Kd.R_alloc | apply Kd.R_drewN | apply Kd.R_drew)); exact HO302.out))) (Kd.R_lt (by (with_reducible repeat (first | apply Kd.R_alloc | apply Kd.R_drewN | apply Kd.R_drew)); exact HO319.out))) (Kd.R_lt (by (with_reducible repeat (first | apply Kd.R_alloc | apply Kd.R_drewN | apply Kd.R_drew)); exact HO322.out))) (Kd.R_lt (by (with_reducible repeat (first | apply Kd.R_alloc | apply Kd.R_drewN | apply Kd.R_drew)); exact HO330.out))) (Kd.R_lt (by (with_reducible repeat (first | apply Kd.R_alloc | apply Kd.R_drewN | apply Kd.R_drew)); exact HO333.out))) (below_size (by repeat (first | (with_reducible first | exact HB.out | apply below_alloc | apply pw_below_drewN | apply below_drew1) | exact HB.out))))
                            have n6_ := Aside0.mk (below_step (by repeat (first | (with_reducible first | exact HB.out | apply below_alloc | apply pw_below_drewN | apply below_drew1) | exact HB.out)) hb)
                            clear HO302
                            clear HO319
                            clear HO322
                            clear HO330
                            clear HO333
                            clear HB
                            have HO302 := n0_
                            have HO319 := n1_
                            have HO322 := n2_
                            have HO330 := n3_
                            have HO333 := n4_
                            have HO336 := n5_
                            have HB := n6_
                            clear n0_ n1_ n2_ n3_ n4_ n5_ n6_
                            (try clear hb)
                            (try clear hb2)
                            (try clear hk)
                            (try clear hi)
                            (try clear ho0)
                            refine hK.out _ _ ⟨((HB.out.cell (World.block_lt_of_cell? w _ hw323_0)).trans hw323_0), ((HB.out.cell (World.block_lt_of_cell? w _ hw323_1)).trans hw323_1), ((HB.out.cell (World.block_lt_of_cell? w _ hw327_0)).trans hw327_0), ((HB.out.cell (World.block_lt_of_cell? w _ hw327_1)).trans hw327_1)⟩ (fun hHeld => ?_)
                            clear hK K
                            refine norm_ (a' := ?_) ?_ ?_
                            rotate_left
                            · show Act.put _ (some 53) _ = _
                              simp only [Act.put, List.setIfInBounds_toArray, List.set_cons_zero, List.set_cons_succ, i64_w, i32_w]
                              rfl
                            refine pure_ (i := 13) (N := some 8) (v := ?_) (a' := ?_) #[true, true, true, true, true, true, true, true, true, true, true, true, true, true] rfl rfl (any_of HT_.out (by kernel_rfl)) (fun _ _ _ h => h) (Or.inl ⟨by rfl, ?_⟩) ?_ ?_
                            rotate_left
                            · intro w'
                              go_simp
                              with_reducible rfl
                            rotate_left
                            · simp only [Act.put, List.setIfInBounds_toArray, List.set_cons_zero, List.set_cons_succ, i64_w, i32_w]
                              rfl
                            refine done_ (done_of HT_.out (by kernel_rfl)) ?_
                            obtain ⟨Ao56, co56, eo56⟩ := Kd.R_slice HO302.out
                            subst eo56
                            try go_wp2_with (first | ((with_reducible refine gate_callee (f := 18) rfl ?_); refine goesL_ (some 55) rfl rfl Try.func18 (by kernel_rfl) rfl #[.slice Ao56 t300.length co56] rfl (by (try simp only [List.map_toArray, List.map_cons, List.map_nil]); first | done | rfl | (simp only [List.length_drop, List.length_take]; rfl)) ?_; (with_reducible refine (span_Norm.calls kj2 _ _ t300 t337 _ ?side1 ?side2 A29.out).mono ?_); (case side1 => repeat (first | exact (Kd.R_reads' HO302.out).2.2 | (with_reducible refine Kd.C_alloc ?_ _) | (with_reducible refine Kd.C_drewN ?_ _) | (with_reducible refine Kd.C_drew ?_))); (case side2 => exact (Kd.R_reads' HO302.out).2.1); rintro e w57 ⟨v338, rfl, ho0, hb⟩; refine ⟨_, rfl, ?_⟩; have n0_ := Aside0.mk (Kd.R_elder' (by (with_reducible repeat (first | apply Kd.R_alloc | apply Kd.R_drewN | apply Kd.R_drew)); exact HO302.out) (Kd.R_base ho0) hb); have n1_ := Aside0.mk (Kd.R_elder' (by (with_reducible repeat (first | apply Kd.R_alloc | apply Kd.R_drewN | apply Kd.R_drew)); exact HO319.out) (Kd.R_base ho0) hb); have n2_ := Aside0.mk (Kd.R_elder' (by (with_reducible repeat (first | apply Kd.R_alloc | apply Kd.R_drewN | apply Kd.R_drew)); exact HO322.out) (Kd.R_base ho0) hb); have n3_ := Aside0.mk (Kd.R_elder' (by (with_reducible repeat (first | apply Kd.R_alloc | apply Kd.R_drewN | apply Kd.R_drew)); exact HO330.out) (Kd.R_base ho0) hb); have n4_ := Aside0.mk (Kd.R_elder' (by (with_reducible repeat (first | apply Kd.R_alloc | apply Kd.R_drewN | apply Kd.R_drew)); exact HO333.out) (Kd.R_base ho0) hb); have n5_ := Aside0.mk (Kd.R_elder' (by (with_reducible repeat (first | apply Kd.R_alloc | apply Kd.R_drewN | apply Kd.R_drew)); exact HO336.out) (Kd.R_base ho0) hb); have n6_ := Aside0.mk (Kd.R_lower (Kd.R_new' (Kd.R_new' (Kd.R_new' (Kd.R_new' (Kd.R_new' (Kd.R_new' ho0 (Kd.R_lt (by (with_reducible repeat (first | apply Kd.R_alloc | apply Kd.R_drewN | apply Kd.R_drew)); exact HO302.out))) (Kd.R_lt (by (with_reducible repeat (first | apply Kd.R_alloc | apply Kd.R_drewN | apply Kd.R_drew)); exact HO319.out))) (Kd.R_lt (by (with_reducible repeat (first | apply Kd.R_alloc | apply Kd.R_drewN | apply Kd.R_drew)); exact HO322.out))) (Kd.R_lt (by (with_reducible repeat (first | apply Kd.R_alloc | apply Kd.R_drewN | apply Kd.R_drew)); exact HO330.out))) (Kd.R_lt (by (with_reducible repeat (first | apply Kd.R_alloc | apply Kd.R_drewN | apply Kd.R_drew)); exact HO333.out))) (Kd.R_lt (by (with_reducible repeat (first | apply Kd.R_alloc | apply Kd.R_drewN | apply Kd.R_drew)); exact HO336.out))) (below_size (by repeat (first | (with_reducible first | exact HB.out | apply below_alloc | apply pw_below_drewN | apply below_drew1) | exact HB.out)))); have n7_ := Aside0.mk (below_step (by repeat (first | (with_reducible first | exact HB.out | apply below_alloc | apply pw_below_drewN | apply below_drew1) | exact HB.out)) hb); clear HO302; clear HO319; clear HO322; clear HO330; clear HO333; clear HO336; clear HB; have HO302 := n0_; have HO319 := n1_; have HO322 := n2_; have HO330 := n3_; have HO333 := n4_; have HO336 := n5_; have HO339 := n6_; have HB := n7_; clear n0_ n1_ n2_ n3_ n4_ n5_ n6_ n7_; (try clear hb); (try clear hb2); (try clear hk); (try clear hi); (try clear ho0); obtain ⟨Ao58, co58, eo58⟩ := Kd.R_slice HO339.out; subst eo58) | ((with_reducible refine gate_callee (f := 17) rfl ?_); refine goesL_ (some 57) rfl rfl Try.func17 (by kernel_rfl) rfl #[.slice Ao58 t337.length co58, .slice Ao56 t300.length co56] rfl (by (try simp only [List.map_toArray, List.map_cons, List.map_nil]); first | done | rfl | (simp only [List.length_drop, List.length_take]; rfl)) ?_; (with_reducible refine (remontoirref04_Same.calls kj2 _ _ t337 _ _ t300 true _ ?side1 ?side2 ?side3 ?side4 A30.out).mono ?_); (case side1 => repeat (first | exact (Kd.R_reads' HO339.out).2.2 | (with_reducible refine Kd.C_alloc ?_ _) | (with_reducible refine Kd.C_drewN ?_ _) | (with_reducible refine Kd.C_drew ?_))); (case side2 => exact (Kd.R_reads' HO339.out).2.1); (case side3 => repeat (first | exact (Kd.R_reads' HO302.out).2.2 | (with_reducible refine Kd.C_alloc ?_ _) | (with_reducible refine Kd.C_drewN ?_ _) | (with_reducible refine Kd.C_drew ?_))); (case side4 => exact (Kd.R_reads' HO302.out).2.1); rintro e w' ⟨rfl, ⟨nd, rfl⟩⟩; refine ⟨_, rfl, ?_⟩; obtain ⟨Ao59, co59, eo59⟩ := Kd.R_slice HO322.out; subst eo59) | (go_at_call 17; (with_reducible refine (remontoirref04_Same.calls kj2 _ _ t300 _ _ t320 true _ ?side1 ?side2 ?side3 ?side4 A32.out).mono ?_); (case side1 => repeat (first | exact (Kd.R_reads' HO302.out).2.2 | (with_reducible refine Kd.C_alloc ?_ _) | (with_reducible refine Kd.C_drewN ?_ _) | (with_reducible refine Kd.C_drew ?_))); (case side2 => exact (Kd.R_reads' HO302.out).2.1); (case side3 => repeat (first | exact (Kd.R_reads' HO322.out).2.2 | (with_reducible refine Kd.C_alloc ?_ _) | (with_reducible refine Kd.C_drewN ?_ _) | (with_reducible refine Kd.C_drew ?_))); (case side4 => exact (Kd.R_reads' HO322.out).2.1); rintro e w' ⟨rfl, ⟨nd, rfl⟩⟩; obtain ⟨Ao60, co60, eo60⟩ := Kd.R_slice HO336.out; subst eo60) | (go_at_call 17; (with_reducible refine (remontoirref04_Same.calls kj2 _ _ t334 _ _ t300 true _ ?side1 ?side2 ?side3 ?side4 A34.out).mono ?_); (case side1 => repeat (first | exact (Kd.R_reads' HO336.out).2.2 | (with_reducible refine Kd.C_alloc ?_ _) | (with_reducible refine Kd.C_drewN ?_ _) | (with_reducible refine Kd.C_drew ?_))); (case side2 => exact (Kd.R_reads' HO336.out).2.1); (case side3 => repeat (first | exact (Kd.R_reads' HO302.out).2.2 | (with_reducible refine Kd.C_alloc ?_ _) | (with_reducible refine Kd.C_drewN ?_ _) | (with_reducible refine Kd.C_drew ?_))); (case side4 => exact (Kd.R_reads' HO302.out).2.1); rintro e w' ⟨rfl, ⟨nd, rfl⟩⟩) | (go_at_call 14; (with_reducible refine (remontoirlaw04_knows.calls kj2  t343 _ A36.out).mono ?_); rintro e w61 ⟨rfl, hb⟩; have n0_ := Aside0.mk (Kd.R_below (by (with_reducible repeat (first | apply Kd.R_alloc | apply Kd.R_drewN | apply Kd.R_drew)); exact HO302.out) hb); have n1_ := Aside0.mk (Kd.R_below (by (with_reducible repeat (first | apply Kd.R_alloc | apply Kd.R_drewN | apply Kd.R_drew)); exact HO319.out) hb); have n2_ := Aside0.mk (Kd.R_below (by (with_reducible repeat (first | apply Kd.R_alloc | apply Kd.R_drewN | apply Kd.R_drew)); exact HO322.out) hb); have n3_ := Aside0.mk (Kd.R_below (by (with_reducible repeat (first | apply Kd.R_alloc | apply Kd.R_drewN | apply Kd.R_drew)); exact HO330.out) hb); have n4_ := Aside0.mk (Kd.R_below (by (with_reducible repeat (first | apply Kd.R_alloc | apply Kd.R_drewN | apply Kd.R_drew)); exact HO333.out) hb); have n5_ := Aside0.mk (Kd.R_below (by (with_reducible repeat (first | apply Kd.R_alloc | apply Kd.R_drewN | apply Kd.R_drew)); exact HO336.out) hb); have n6_ := Aside0.mk (Kd.R_below (by (with_reducible repeat (first | apply Kd.R_alloc | apply Kd.R_drewN | apply Kd.R_drew)); exact HO339.out) hb); have n7_ := Aside0.mk (below_step (by repeat (first | (with_reducible first | exact HB.out | apply below_alloc | apply pw_below_drewN | apply below_drew1) | exact HB.out)) hb); clear HO302; clear HO319; clear HO322; clear HO330; clear HO333; clear HO336; clear HO339; clear HB; have HO302 := n0_; have HO319 := n1_; have HO322 := n2_; have HO330 := n3_; have HO333 := n4_; have HO336 := n5_; have HO339 := n6_; have HB := n7_; clear n0_ n1_ n2_ n3_ n4_ n5_ n6_ n7_; (try clear hb); (try clear hb2); (try clear hk); (try clear hi)))
                            go_ret
                            exact ⟨by first | rfl | (rw [HR_.out] <;> rfl) | (simp [errW_none, errW_some] <;> rfl) | (simp only [← hji17]; first | rfl | (simp [errW_none, errW_some] <;> rfl)) | (simp [*, errW_none, errW_some] <;> rfl), by repeat (first | (with_reducible first | exact HB.out | apply below_alloc | apply pw_below_drewN | apply below_drew1) | exact HB.out)⟩
                          · replace c35 := Bool.eq_false_iff.mpr c35
                            subst c35
                            have H1 : (some false) = some true := by rw [if_neg (show ¬ (false = true) by decide)] at H; exact H
                            clear H
                            have H := H1
                            clear H1
                            exact absurd H (by simp)
                        · replace c33 := Bool.eq_false_iff.mpr c33
                          subst c33
                          have H1 : (some false) = some true := by rw [if_neg (show ¬ (false = true) by decide)] at H; exact H
                          clear H
                          have H := H1
                          clear H1
                          exact absurd H (by simp)
                      · replace c31 := Bool.eq_false_iff.mpr c31
                        subst c31
                        have H1 : (some false) = some true := by rw [if_neg (show ¬ (false = true) by decide)] at H; exact H
                        clear H
                        have H := H1
                        clear H1
                        exact absurd H (by simp)
                    · rw [if_neg c27] at H
                      exact absurd H (by simp)
                  · rw [if_neg c25] at H
                    exact absurd H (by simp)
                · rw [if_neg c23] at H
                  exact absurd H (by simp)
              · rw [if_neg c20] at H
                exact absurd H (by simp)
            · rw [if_neg c19] at H
              exact absurd H (by simp)
          · rw [if_neg c18] at H
            exact absurd H (by simp)

/-- The statement of remontoirlaw04_SpanAgain over plain data. -/
def remontoirlaw04_SpanAgain.Pure : Prop := ∀ (l0 : List (S29)) (a1 : Int), (l0.length ≤ 9223372036854775807 ∧ ∀ x ∈ l0, ((Lit.int .i64 x.f0).wf = true ∧ (Lit.int .i64 x.f1).wf = true)) → (Lit.int .u8 a1).wf = true → ∃ k, remontoirlaw04_SpanAgain.f k l0 a1 = some true

end Go.Proofs.Ytdfokaldjfpkhaa.FSpan
