-- Written by the session (wip/tools) for this claim: functions of the program as Lean functions, and their contracts.
import Derived.Test.YtkfkghnmbemdiaaZFSynthx0
import Derived.Test.YtkfkghnmbemdiaaZFSynthx4
import Derived.Test.YtkfkghnmbemdiaaZFSynthx5
import Derived.Test.YtkfkghnmbemdiaaZFSynthx8
import Derived.Test.YtkfkghnmbemdiaaZFSynthx9
import Derived.Test.YtkfkghnmbemdiaaZFSynthx10
namespace Go.Proofs.Ytkfkghnmbemdiaa.FSynth
open Go.RowKit Go.Proofs.YtkfkghnmbemdiaaW.PrintWords Go.Proofs.YtkfkghnmbemdiaaW.PrintLast Go.Proofs.YtkfkghnmbemdiaaW.PrintMore
attribute [local go_sem] max2_int min2_int max_two min_two max_three min_three max_four min_four   -- for this text's walks alone
set_option linter.unusedVariables false
set_option linter.unusedSimpArgs false

/-! ### remontoirlaw12_SynthSupplies: function 11 -/
mutual
def remontoirlaw12_SynthSupplies.j0 : Nat → List (S54) → Int → Int → Bool → Option (Bool)
  | 0, _, _, _, _ => none
  | k + 1, x0, x1, x2, x20 => if x20 = true then ((remontoirlaw12_knows.f k).bind fun t236 => (some t236)) else ((synth_Lay.f k x0).bind fun bt237 => (if bt237.2 = 0 then (if (x0.length : Int) = 0 then (none) else (remontoirlaw12_SynthSupplies.l0 k x0 x2 bt237.1 (Int.tmod (wrap64 (x1)) (x0.length : Int)) ([] : List Bool) 0)) else (if (bt237.1.length : Int) = 0 then ((remontoirlaw12_knows.f k).bind fun t241 => (some t241)) else (some false))))
def remontoirlaw12_SynthSupplies.l0 : Nat → List (S54) → Int → List Int → Int → List Bool → Int → Option (Bool)
  | 0, _, _, _, _, _, _ => none
  | k + 1, x0, x2, x7, x9, x10, x11 => if x11 < 3 then (remontoirlaw12_SynthSupplies.l1 k x0 x2 x7 x9 x10 x11 0) else (if 0 ≤ x9 then (if x9 < (x0.length : Int) then ((remontoirref09_Legal.f k ((rd_T54 x0 x9).f0) ((rd_T54 x0 x9).f1) x10).bind fun t247 => (if t247 = true then ((supply_Legal.f k ((rd_T54 x0 x9).f0) ((rd_T54 x0 x9).f1) x10).bind fun t249 => (remontoirlaw12_SynthSupplies.j3 k x0 x2 x9 x10 (!t249))) else (remontoirlaw12_SynthSupplies.j3 k x0 x2 x9 x10 true))) else (none)) else (none))
def remontoirlaw12_SynthSupplies.l1 : Nat → List (S54) → Int → List Int → Int → List Bool → Int → Int → Option (Bool)
  | 0, _, _, _, _, _, _, _ => none
  | k + 1, x0, x2, x7, x9, x10, x11, x12 => if x12 < (x7.length : Int) then (if 0 ≤ x12 then (if x10.length < 140737488355328 then (remontoirlaw12_SynthSupplies.l1 k x0 x2 x7 x9 (x10 ++ [((rd x7 x12) == x9)]) x11 (wrap64 (x12 + 1))) else (none)) else (none)) else (remontoirlaw12_SynthSupplies.l0 k x0 x2 x7 x9 x10 (wrap64 (x11 + 1)))
def remontoirlaw12_SynthSupplies.j3 : Nat → List (S54) → Int → Int → List Bool → Bool → Option (Bool)
  | 0, _, _, _, _, _ => none
  | k + 1, x0, x2, x9, x10, x74 => if x74 = true then (some false) else (if x2 < 1 then (remontoirlaw12_SynthSupplies.j4 k x0 x2 x9 x10 true) else (remontoirlaw12_SynthSupplies.j4 k x0 x2 x9 x10 (decide (x2 > (x10.length : Int)))))
def remontoirlaw12_SynthSupplies.j4 : Nat → List (S54) → Int → Int → List Bool → Bool → Option (Bool)
  | 0, _, _, _, _, _ => none
  | k + 1, x0, x2, x9, x10, x82 => if x82 = true then ((remontoirlaw12_knows.f k).bind fun t250 => (some t250)) else ((supply_Least.f k x10 x2).bind fun t251 => (if 0 ≤ x9 then (if x9 < (x0.length : Int) then ((remontoirref09_Bound.f k ((rd_T54 x0 x9).f0) ((rd_T54 x0 x9).f1) x2).bind fun t253 => (if t251 ≥ t253 then ((remontoirlaw12_knows.f k).bind fun t254 => (some t254)) else (some false))) else (none)) else (none)))
end
def remontoirlaw12_SynthSupplies.f (k : Nat) (l0 : List (S54)) (a1 : Int) (a2 : Int) : Option (Bool) := if (l0.length : Int) > 20 then (remontoirlaw12_SynthSupplies.j0 k l0 a1 a2 true) else (remontoirlaw12_SynthSupplies.j0 k l0 a1 a2 ((l0.length : Int) == 0))
theorem remontoirlaw12_SynthSupplies.mono_l : ∀ k, (∀ y0 y1 y2 y3, LeO (remontoirlaw12_SynthSupplies.j0 k y0 y1 y2 y3) (remontoirlaw12_SynthSupplies.j0 (k + 1) y0 y1 y2 y3)) ∧ (∀ y0 y1 y2 y3 y4 y5, LeO (remontoirlaw12_SynthSupplies.l0 k y0 y1 y2 y3 y4 y5) (remontoirlaw12_SynthSupplies.l0 (k + 1) y0 y1 y2 y3 y4 y5)) ∧ (∀ y0 y1 y2 y3 y4 y5 y6, LeO (remontoirlaw12_SynthSupplies.l1 k y0 y1 y2 y3 y4 y5 y6) (remontoirlaw12_SynthSupplies.l1 (k + 1) y0 y1 y2 y3 y4 y5 y6)) ∧ (∀ y0 y1 y2 y3 y4, LeO (remontoirlaw12_SynthSupplies.j3 k y0 y1 y2 y3 y4) (remontoirlaw12_SynthSupplies.j3 (k + 1) y0 y1 y2 y3 y4)) ∧ (∀ y0 y1 y2 y3 y4, LeO (remontoirlaw12_SynthSupplies.j4 k y0 y1 y2 y3 y4) (remontoirlaw12_SynthSupplies.j4 (k + 1) y0 y1 y2 y3 y4))
  | 0 => ⟨fun _ _ _ _ r h => by simp [remontoirlaw12_SynthSupplies.j0] at h, fun _ _ _ _ _ _ r h => by simp [remontoirlaw12_SynthSupplies.l0] at h, fun _ _ _ _ _ _ _ r h => by simp [remontoirlaw12_SynthSupplies.l1] at h, fun _ _ _ _ _ r h => by simp [remontoirlaw12_SynthSupplies.j3] at h, fun _ _ _ _ _ r h => by simp [remontoirlaw12_SynthSupplies.j4] at h⟩
  | k + 1 => by
    obtain ⟨ih0, ih1, ih2, ih3, ih4⟩ := remontoirlaw12_SynthSupplies.mono_l k
    refine ⟨?_, ?_, ?_, ?_, ?_⟩
    · intro y0 y1 y2 y3
      unfold remontoirlaw12_SynthSupplies.j0
      repeat' first
      | (with_reducible exact ih0 _ _ _ _)
      | (with_reducible exact ih1 _ _ _ _ _ _)
      | (with_reducible exact ih2 _ _ _ _ _ _ _)
      | (with_reducible exact ih3 _ _ _ _ _)
      | (with_reducible exact ih4 _ _ _ _ _)
      | (with_reducible exact remontoirlaw12_knows.mono _)
      | (with_reducible exact remontoirref09_Bound.mono _ _ _ _)
      | (with_reducible exact remontoirref09_Legal.mono _ _ _ _)
      | (with_reducible exact supply_Least.mono _ _ _)
      | (with_reducible exact supply_Legal.mono _ _ _ _)
      | (with_reducible exact synth_Lay.mono _ _)
      | (with_reducible exact LeO.refl _)
      | (with_reducible exact LeO.none _)
      | (with_reducible refine LeO.ite ?_ ?_)
      | (with_reducible refine LeO.bind ?_ (fun _ => ?_))
      | exact ih0 _ _ _ _
      | exact ih1 _ _ _ _ _ _
      | exact ih2 _ _ _ _ _ _ _
      | exact ih3 _ _ _ _ _
      | exact ih4 _ _ _ _ _
      | exact remontoirlaw12_knows.mono _
      | exact remontoirref09_Bound.mono _ _ _ _
      | exact remontoirref09_Legal.mono _ _ _ _
      | exact supply_Least.mono _ _ _
      | exact supply_Legal.mono _ _ _ _
      | exact synth_Lay.mono _ _
      | exact LeO.none _
      | refine LeO.ite ?_ ?_
      | refine LeO.bind ?_ (fun _ => ?_)
    · intro y0 y1 y2 y3 y4 y5
      unfold remontoirlaw12_SynthSupplies.l0
      repeat' first
      | (with_reducible exact ih0 _ _ _ _)
      | (with_reducible exact ih1 _ _ _ _ _ _)
      | (with_reducible exact ih2 _ _ _ _ _ _ _)
      | (with_reducible exact ih3 _ _ _ _ _)
      | (with_reducible exact ih4 _ _ _ _ _)
      | (with_reducible exact remontoirlaw12_knows.mono _)
      | (with_reducible exact remontoirref09_Bound.mono _ _ _ _)
      | (with_reducible exact remontoirref09_Legal.mono _ _ _ _)
      | (with_reducible exact supply_Least.mono _ _ _)
      | (with_reducible exact supply_Legal.mono _ _ _ _)
      | (with_reducible exact synth_Lay.mono _ _)
      | (with_reducible exact LeO.refl _)
      | (with_reducible exact LeO.none _)
      | (with_reducible refine LeO.ite ?_ ?_)
      | (with_reducible refine LeO.bind ?_ (fun _ => ?_))
      | exact ih0 _ _ _ _
      | exact ih1 _ _ _ _ _ _
      | exact ih2 _ _ _ _ _ _ _
      | exact ih3 _ _ _ _ _
      | exact ih4 _ _ _ _ _
      | exact remontoirlaw12_knows.mono _
      | exact remontoirref09_Bound.mono _ _ _ _
      | exact remontoirref09_Legal.mono _ _ _ _
      | exact supply_Least.mono _ _ _
      | exact supply_Legal.mono _ _ _ _
      | exact synth_Lay.mono _ _
      | exact LeO.none _
      | refine LeO.ite ?_ ?_
      | refine LeO.bind ?_ (fun _ => ?_)
    · intro y0 y1 y2 y3 y4 y5 y6
      unfold remontoirlaw12_SynthSupplies.l1
      repeat' first
      | (with_reducible exact ih0 _ _ _ _)
      | (with_reducible exact ih1 _ _ _ _ _ _)
      | (with_reducible exact ih2 _ _ _ _ _ _ _)
      | (with_reducible exact ih3 _ _ _ _ _)
      | (with_reducible exact ih4 _ _ _ _ _)
      | (with_reducible exact remontoirlaw12_knows.mono _)
      | (with_reducible exact remontoirref09_Bound.mono _ _ _ _)
      | (with_reducible exact remontoirref09_Legal.mono _ _ _ _)
      | (with_reducible exact supply_Least.mono _ _ _)
      | (with_reducible exact supply_Legal.mono _ _ _ _)
      | (with_reducible exact synth_Lay.mono _ _)
      | (with_reducible exact LeO.refl _)
      | (with_reducible exact LeO.none _)
      | (with_reducible refine LeO.ite ?_ ?_)
      | (with_reducible refine LeO.bind ?_ (fun _ => ?_))
      | exact ih0 _ _ _ _
      | exact ih1 _ _ _ _ _ _
      | exact ih2 _ _ _ _ _ _ _
      | exact ih3 _ _ _ _ _
      | exact ih4 _ _ _ _ _
      | exact remontoirlaw12_knows.mono _
      | exact remontoirref09_Bound.mono _ _ _ _
      | exact remontoirref09_Legal.mono _ _ _ _
      | exact supply_Least.mono _ _ _
      | exact supply_Legal.mono _ _ _ _
      | exact synth_Lay.mono _ _
      | exact LeO.none _
      | refine LeO.ite ?_ ?_
      | refine LeO.bind ?_ (fun _ => ?_)
    · intro y0 y1 y2 y3 y4
      unfold remontoirlaw12_SynthSupplies.j3
      repeat' first
      | (with_reducible exact ih0 _ _ _ _)
      | (with_reducible exact ih1 _ _ _ _ _ _)
      | (with_reducible exact ih2 _ _ _ _ _ _ _)
      | (with_reducible exact ih3 _ _ _ _ _)
      | (with_reducible exact ih4 _ _ _ _ _)
      | (with_reducible exact remontoirlaw12_knows.mono _)
      | (with_reducible exact remontoirref09_Bound.mono _ _ _ _)
      | (with_reducible exact remontoirref09_Legal.mono _ _ _ _)
      | (with_reducible exact supply_Least.mono _ _ _)
      | (with_reducible exact supply_Legal.mono _ _ _ _)
      | (with_reducible exact synth_Lay.mono _ _)
      | (with_reducible exact LeO.refl _)
      | (with_reducible exact LeO.none _)
      | (with_reducible refine LeO.ite ?_ ?_)
      | (with_reducible refine LeO.bind ?_ (fun _ => ?_))
      | exact ih0 _ _ _ _
      | exact ih1 _ _ _ _ _ _
      | exact ih2 _ _ _ _ _ _ _
      | exact ih3 _ _ _ _ _
      | exact ih4 _ _ _ _ _
      | exact remontoirlaw12_knows.mono _
      | exact remontoirref09_Bound.mono _ _ _ _
      | exact remontoirref09_Legal.mono _ _ _ _
      | exact supply_Least.mono _ _ _
      | exact supply_Legal.mono _ _ _ _
      | exact synth_Lay.mono _ _
      | exact LeO.none _
      | refine LeO.ite ?_ ?_
      | refine LeO.bind ?_ (fun _ => ?_)
    · intro y0 y1 y2 y3 y4
      unfold remontoirlaw12_SynthSupplies.j4
      repeat' first
      | (with_reducible exact ih0 _ _ _ _)
      | (with_reducible exact ih1 _ _ _ _ _ _)
      | (with_reducible exact ih2 _ _ _ _ _ _ _)
      | (with_reducible exact ih3 _ _ _ _ _)
      | (with_reducible exact ih4 _ _ _ _ _)
      | (with_reducible exact remontoirlaw12_knows.mono _)
      | (with_reducible exact remontoirref09_Bound.mono _ _ _ _)
      | (with_reducible exact remontoirref09_Legal.mono _ _ _ _)
      | (with_reducible exact supply_Least.mono _ _ _)
      | (with_reducible exact supply_Legal.mono _ _ _ _)
      | (with_reducible exact synth_Lay.mono _ _)
      | (with_reducible exact LeO.refl _)
      | (with_reducible exact LeO.none _)
      | (with_reducible refine LeO.ite ?_ ?_)
      | (with_reducible refine LeO.bind ?_ (fun _ => ?_))
      | exact ih0 _ _ _ _
      | exact ih1 _ _ _ _ _ _
      | exact ih2 _ _ _ _ _ _ _
      | exact ih3 _ _ _ _ _
      | exact ih4 _ _ _ _ _
      | exact remontoirlaw12_knows.mono _
      | exact remontoirref09_Bound.mono _ _ _ _
      | exact remontoirref09_Legal.mono _ _ _ _
      | exact supply_Least.mono _ _ _
      | exact supply_Legal.mono _ _ _ _
      | exact synth_Lay.mono _ _
      | exact LeO.none _
      | refine LeO.ite ?_ ?_
      | refine LeO.bind ?_ (fun _ => ?_)
theorem remontoirlaw12_SynthSupplies.mono : ∀ a0 a1 a2 k, LeO (remontoirlaw12_SynthSupplies.f k a0 a1 a2) (remontoirlaw12_SynthSupplies.f (k + 1) a0 a1 a2) := by
  intro a0 a1 a2 k
  obtain ⟨ih0, ih1, ih2, ih3, ih4⟩ := remontoirlaw12_SynthSupplies.mono_l k
  unfold remontoirlaw12_SynthSupplies.f
  repeat' first
      | (with_reducible exact ih0 _ _ _ _)
      | (with_reducible exact ih1 _ _ _ _ _ _)
      | (with_reducible exact ih2 _ _ _ _ _ _ _)
      | (with_reducible exact ih3 _ _ _ _ _)
      | (with_reducible exact ih4 _ _ _ _ _)
      | (with_reducible exact remontoirlaw12_knows.mono _)
      | (with_reducible exact remontoirref09_Bound.mono _ _ _ _)
      | (with_reducible exact remontoirref09_Legal.mono _ _ _ _)
      | (with_reducible exact supply_Least.mono _ _ _)
      | (with_reducible exact supply_Legal.mono _ _ _ _)
      | (with_reducible exact synth_Lay.mono _ _)
      | (with_reducible exact LeO.refl _)
      | (with_reducible exact LeO.none _)
      | (with_reducible refine LeO.ite ?_ ?_)
      | (with_reducible refine LeO.bind ?_ (fun _ => ?_))
      | exact ih0 _ _ _ _
      | exact ih1 _ _ _ _ _ _
      | exact ih2 _ _ _ _ _ _ _
      | exact ih3 _ _ _ _ _
      | exact ih4 _ _ _ _ _
      | exact remontoirlaw12_knows.mono _
      | exact remontoirref09_Bound.mono _ _ _ _
      | exact remontoirref09_Legal.mono _ _ _ _
      | exact supply_Least.mono _ _ _
      | exact supply_Legal.mono _ _ _ _
      | exact synth_Lay.mono _ _
      | exact LeO.none _
      | refine LeO.ite ?_ ?_
      | refine LeO.bind ?_ (fun _ => ?_)
def remontoirlaw12_SynthSupplies.T19 : Bool × List (List Nat × List Nat) := (true, [([], []), ([], []), ([0, 1], [0, 1]), ([], []), ([], []), ([3, 4], [3, 4]), ([5], [5]), ([], []), ([6, 7, 2], [6, 7]), ([2, 8], [2, 8]), ([9, 8], [9]), ([10, 10], [10]), ([10, 11], [10, 11]), ([12, 11, 0, 1, 2, 3, 4, 5, 6, 7, 8, 9, 10, 11, 12], [12])])
def remontoirlaw12_SynthSupplies.B19 : List Nat := [0, 0, 3, 0, 0, 24, 56, 0, 255, 511, 1023, 2047, 4095, 8191]
theorem remontoirlaw12_SynthSupplies.tab19 : rtab .any (opsOf Try.f11 19) = remontoirlaw12_SynthSupplies.T19 := by kernel_rfl
theorem remontoirlaw12_SynthSupplies.bits19 : waitsOk remontoirlaw12_SynthSupplies.T19.2 remontoirlaw12_SynthSupplies.B19 = true := by kernel_rfl
set_option maxHeartbeats 8000000 in
set_option maxRecDepth 100000 in
theorem remontoirlaw12_SynthSupplies.calls (k : Nat) (A0 : Option Addr) (c0 : Nat) (l0 : List (S54)) (a1 : Int) (a2 : Int) (w : World) (hr0 : Kd.C k54 w A0 l0.length l0) (hc0 : l0.length ≤ c0) (h : remontoirlaw12_SynthSupplies.f k l0 a1 a2 = some true) :
    Calls Try.prog 11 #[.slice A0 l0.length c0, .int .u8 a1, .int .i64 a2] w fun e w' => e = .returned (.bool true) ∧ Below w.heap.size w w' := by
  have hu54 := Try.underlying54
  have HR0 := Aside0.mk hr0
  have HC0 := Aside0.mk hc0
  clear hr0 hc0
  have HB := Aside0.mk (Below.refl w.heap.size w)
  have H : (if (l0.length : Int) > 20 then (remontoirlaw12_SynthSupplies.j0 k l0 a1 a2 true) else (remontoirlaw12_SynthSupplies.j0 k l0 a1 a2 ((l0.length : Int) == 0))) = some true := h
  clear h
  have HC4 := Aside0.mk H
  clear H
  go_enter Try.func11, Try.ntmps11
  go_upto_region 1 with (fail)
  go_cut [20] (fun v20 wc => ∃ (kq : Nat) (x20_3 : Bool), v20 = .bool x20_3 ∧ Aside0 (remontoirlaw12_SynthSupplies.j0 kq l0 a1 a2 x20_3 = some true) ∧ Aside0 (kq ≤ k) ∧ Aside0 (Below w.heap.size w wc))
  case first =>
    have H := HC4.out
    clear HC4
    by_cases c5 : (l0.length : Int) > 20
    · rw [if_pos c5] at H
      have c5b0 : decide (20 < (l0.length : Int)) = true := decide_eq_true c5
      have c5b1 : decide (20 < l0.length) = true := decide_eq_true (by omega)
      clear c5
      (first | rw [c5b0] | (simp only [i64_w, i32_w]; rw [c5b0]) | rw [c5b1] | (simp only [i64_w, i32_w]; rw [c5b1]) | skip)
      have H' := Aside0.mk H
      clear H
      go_wp2
      go_meet
      case rel => exact ⟨_, (true), (by first | rfl | (simp; done) | (simp [*]; done)), H', ⟨by first | omega | exact Nat.le_refl _⟩, ⟨by repeat (first | (with_reducible first | exact HB.out | apply below_alloc | apply pw_below_drewN | apply below_drew1) | exact HB.out)⟩⟩
    · rw [if_neg c5] at H
      have c5b0 : decide (20 < (l0.length : Int)) = false := decide_eq_false c5
      have c5b1 : decide (20 < l0.length) = false := decide_eq_false (by omega)
      clear c5
      (first | rw [c5b0] | (simp only [i64_w, i32_w]; rw [c5b0]) | rw [c5b1] | (simp only [i64_w, i32_w]; rw [c5b1]) | skip)
      have H' := Aside0.mk H
      clear H
      go_wp2
      go_meet
      case rel => exact ⟨_, (((l0.length : Int) == 0)), (by first | rfl | (simp; done) | (simp [*]; done)), H', ⟨by first | omega | exact Nat.le_refl _⟩, ⟨by repeat (first | (with_reducible first | exact HB.out | apply below_alloc | apply pw_below_drewN | apply below_drew1) | exact HB.out)⟩⟩
  case rest =>
    clear HC4
    try clear c1
    try clear p2
    try clear c5
    try clear c5b0
    try clear c5b1
    obtain ⟨kq, x20_3, rfl, HA, HJ3, HB⟩ := hcut
    cases kq with
    | zero => exact absurd HA.out (by simp [remontoirlaw12_SynthSupplies.j0])
    | succ kj3 =>
      have H := HA.out
      clear HA
      simp only [remontoirlaw12_SynthSupplies.j0] at H
      by_cases c6 : x20_3 = true
      · subst c6
        have H1 : ((remontoirlaw12_knows.f kj3).bind fun t236 => (some t236)) = some true := by rw [if_pos rfl] at H; exact H
        clear H
        have H := H1
        clear H1
        replace H := Option.bind_eq_some_iff.mp H
        obtain ⟨t236, A70, H⟩ := H
        replace H : (some t236) = some true := H
        have A7 := Aside0.mk A70
        clear A70
        have HR_ := Aside0.mk (Option.some.inj H)
        clear H
        go_wp2_with (first | ((with_reducible refine gate_callee (f := 25) rfl ?_); refine goesL_ (some 21) rfl rfl Try.func25 (by kernel_rfl) rfl #[] rfl (by (try simp only [List.map_toArray, List.map_cons, List.map_nil]); first | done | rfl | (simp only [List.length_drop, List.length_take]; rfl)) ?_; (with_reducible refine (remontoirlaw12_knows.calls kj3  t236 _ A7.out).mono ?_); rintro e w8 ⟨rfl, hb⟩; refine ⟨_, rfl, ?_⟩; have n0_ := Aside0.mk (below_step (by repeat (first | (with_reducible first | exact HB.out | apply below_alloc | apply pw_below_drewN | apply below_drew1) | exact HB.out)) hb); clear HB; have HB := n0_; clear n0_; (try clear hb); (try clear hb2); (try clear hk); (try clear hi)))
        go_ret
        exact ⟨by first | rfl | (rw [HR_.out] <;> rfl) | (simp [errW_none, errW_some] <;> rfl) | (simp [*, errW_none, errW_some] <;> rfl), by repeat (first | (with_reducible first | exact HB.out | apply below_alloc | apply pw_below_drewN | apply below_drew1) | exact HB.out)⟩
      · replace c6 := Bool.eq_false_iff.mpr c6
        subst c6
        have H1 : ((synth_Lay.f kj3 l0).bind fun bt237 => (if bt237.2 = 0 then (if (l0.length : Int) = 0 then (none) else (remontoirlaw12_SynthSupplies.l0 kj3 l0 a2 bt237.1 (Int.tmod (wrap64 (a1)) (l0.length : Int)) ([] : List Bool) 0)) else (if (bt237.1.length : Int) = 0 then ((remontoirlaw12_knows.f kj3).bind fun t241 => (some t241)) else (some false)))) = some true := by rw [if_neg (show ¬ (false = true) by decide)] at H; exact H
        clear H
        have H := H1
        clear H1
        replace H := Option.bind_eq_some_iff.mp H
        obtain ⟨⟨t237, t238⟩, A90, H⟩ := H
        replace H : (if t238 = 0 then (if (l0.length : Int) = 0 then (none) else (remontoirlaw12_SynthSupplies.l0 kj3 l0 a2 t237 (Int.tmod (wrap64 (a1)) (l0.length : Int)) ([] : List Bool) 0)) else (if (t237.length : Int) = 0 then ((remontoirlaw12_knows.f kj3).bind fun t241 => (some t241)) else (some false))) = some true := H
        have A9 := Aside0.mk A90
        clear A90
        by_cases c10 : t238 = 0
        · rw [if_pos c10] at H
          have c10b0 : (t238 == 0) = true := beq_iff_eq.mpr c10
          have c10b1 : (t238 != 0) = false := bne_eq_false_iff_eq.mpr c10
          clear c10
          by_cases c11 : (l0.length : Int) = 0
          · rw [if_pos c11] at H
            exact absurd H (by simp)
          · rw [if_neg c11] at H
            have c11b0 : ((l0.length : Int) == 0) = false := beq_eq_false_iff_ne.mpr c11
            have c11b1 : ((l0.length : Int) != 0) = true := bne_iff_ne.mpr c11
            have c11b2 : ¬ (l0 = []) := fun h_ => c11 (by rw [h_]; rfl)
            have H' := Aside0.mk H
            clear H
            go_wp2_with (first | ((with_reducible refine gate_callee (f := 26) rfl ?_); refine goesL_ (some 24) rfl rfl Try.func26 (by kernel_rfl) rfl #[.slice A0 l0.length c0] rfl (by (try simp only [List.map_toArray, List.map_cons, List.map_nil]); first | done | rfl | (simp only [List.length_drop, List.length_take]; rfl)) ?_; (with_reducible refine (synth_Lay.calls kj3 _ _ l0 t237 t238 _ ?side1 ?side2 A9.out).mono ?_); (case side1 => repeat (first | exact (Kd.C_below HR0.out HB.out) | (with_reducible refine Kd.C_alloc ?_ _) | (with_reducible refine Kd.C_drewN ?_ _) | (with_reducible refine Kd.C_drew ?_))); (case side2 => exact HC0.out); rintro e w12 ⟨v239, rfl, ho0, hb⟩; refine ⟨_, rfl, ?_⟩; have n0_ := Aside0.mk (Kd.R_lower ho0 (below_size (by repeat (first | (with_reducible first | exact HB.out | apply below_alloc | apply pw_below_drewN | apply below_drew1) | exact HB.out)))); have n1_ := Aside0.mk (below_step (by repeat (first | (with_reducible first | exact HB.out | apply below_alloc | apply pw_below_drewN | apply below_drew1) | exact HB.out)) hb); clear HB; have HO240 := n0_; have HB := n1_; clear n0_ n1_; (try clear hb); (try clear hb2); (try clear hk); (try clear hi); (try clear ho0)))
            go_loopg [10, 11] kj3 (fun kq v10 v11 w' => ∃ (x10_2 : List Bool) (x11_2 : Int), v11 = .int .i64 x11_2 ∧ Aside0 (remontoirlaw12_SynthSupplies.l0 kq l0 a2 t237 (Int.tmod (wrap64 (a1)) (l0.length : Int)) x10_2 x11_2 = some true) ∧ Aside0 (kq ≤ kj3) ∧ Aside0 (Kd.R (Kd.int .i64) 3 w' w.heap.size (fun _ => True) v239 t237) ∧ Aside0 (Kd.R Kd.bool 4 w' w.heap.size (fun _ => True) v10 x10_2) ∧ Aside0 (Below w.heap.size w w'))
            case atStart => exact ⟨(([] : List Bool)), (0), (by first | rfl | (simp; done) | (simp [*]; done)), H', ⟨Nat.le_refl _⟩, ⟨by (with_reducible repeat (first | apply Kd.R_alloc | apply Kd.R_drewN | apply Kd.R_drew)); exact HO240.out⟩, ⟨by first | exact Kd.R_nil _ _ _ _ _ | exact Kd.N_nil _ _ _ _ _ | exact Kd.V_nil _ _ _ _ _ | exact Kd.Q_nil _ _ _ _ _ | exact Kd.S_nil _ _ _ _ _⟩, ⟨by repeat (first | (with_reducible first | exact HB.out | apply below_alloc | apply pw_below_drewN | apply below_drew1) | exact HB.out)⟩⟩
            case round =>
              clear H'
              try clear c1
              try clear c2
              try clear p2
              try clear c5
              try clear c5b0
              try clear c5b1
              try clear c6
              try clear p6
              try clear c10
              try clear c10b0
              try clear c10b1
              try clear c11
              try clear c11b0
              try clear c11b1
              try clear c11b2
              try clear p2
              obtain ⟨x10_2, x11_2, rfl, HA, HK2, HO_7, HO_10, HB⟩ := hrel
              cases gk with
              | zero => exact absurd HA.out (by simp [remontoirlaw12_SynthSupplies.l0])
              | succ k2 =>
                have H := HA.out
                clear HA
                simp only [remontoirlaw12_SynthSupplies.l0] at H
                by_cases c13 : x11_2 < 3
                · rw [if_pos c13] at H
                  have c13b0 : decide (x11_2 < 3) = true := decide_eq_true c13
                  clear c13
                  have H' := Aside0.mk H
                  clear H
                  go_wp2
                  go_loopg [10, 12] k2 (fun kq v10 v12 w' => ∃ (x10_3 : List Bool) (x12_3 : Int), v12 = .int .i64 x12_3 ∧ Aside0 (remontoirlaw12_SynthSupplies.l1 kq l0 a2 t237 (Int.tmod (wrap64 (a1)) (l0.length : Int)) x10_3 x11_2 x12_3 = some true) ∧ Aside0 (kq ≤ k2) ∧ Aside0 (Kd.R (Kd.int .i64) 3 w' w.heap.size (fun _ => True) v239 t237) ∧ Aside0 (Kd.R Kd.bool 4 w' w.heap.size (fun _ => True) v10 x10_3) ∧ Aside0 (Below w.heap.size w w'))
                  case atStart => exact ⟨(x10_2), (0), (by first | rfl | (simp; done) | (simp [*]; done)), H', ⟨Nat.le_refl _⟩, ⟨by (with_reducible repeat (first | apply Kd.R_alloc | apply Kd.R_drewN | apply Kd.R_drew)); exact HO_7.out⟩, ⟨by (with_reducible repeat (first | apply Kd.R_alloc | apply Kd.R_drewN | apply Kd.R_drew)); exact HO_10.out⟩, ⟨by repeat (first | (with_reducible first | exact HB.out | apply below_alloc | apply pw_below_drewN | apply below_drew1) | exact HB.out)⟩⟩
                  case round =>
                    clear H'
                    try clear c1
                    try clear c2
                    try clear p2
                    try clear c5
                    try clear c5b0
                    try clear c5b1
                    try clear c6
                    try clear p6
                    try clear c10
                    try clear c10b0
                    try clear c10b1
                    try clear c11
                    try clear c11b0
                    try clear c11b1
                    try clear c11b2
                    try clear c13
                    try clear c13b0
                    try clear p2
                    try clear p6
                    obtain ⟨x10_3, x12_3, rfl, HA, HK3, HO_7, HO_10, HB⟩ := hrel
                    cases gk with
                    | zero => exact absurd HA.out (by simp [remontoirlaw12_SynthSupplies.l1])
                    | succ k3 =>
                      have H := HA.out
                      clear HA
                      simp only [remontoirlaw12_SynthSupplies.l1] at H
                      by_cases c14 : x12_3 < (t237.length : Int)
                      · rw [if_pos c14] at H
                        have c14b0 : decide (x12_3 < (t237.length : Int)) = true := decide_eq_true c14
                        clear c14
                        by_cases c15 : 0 ≤ x12_3
                        · rw [if_pos c15] at H
                          have c15b0 : decide (0 ≤ x12_3) = true := decide_eq_true c15
                          clear c15
                          by_cases c16 : x10_3.length < 140737488355328
                          · rw [if_pos c16] at H
                            have LMc16 := Aside0.mk c16
                            clear c16
                            obtain ⟨y243, hy243⟩ : ∃ y_ : List Bool, y_ = (x10_3 ++ [((rd t237 x12_3) == (Int.tmod (wrap64 (a1)) (l0.length : Int)))]) := ⟨_, rfl⟩
                            replace H : (remontoirlaw12_SynthSupplies.l1 k3 l0 a2 t237 (Int.tmod (wrap64 (a1)) (l0.length : Int)) y243 x11_2 (wrap64 (x12_3 + 1))) = some true := by first | (rw [hy243]; with_reducible exact H) | (have H2_ := (Option.bind_some _ _).symm.trans H; rw [hy243]; with_reducible exact H2_) | (have H2_ := (Option.bind_some _ _).symm.trans H; with_reducible exact H2_) | with_reducible exact H | (rw [hy243]; exact H) | exact H
                            have Ny243 := Aside0.mk hy243
                            clear hy243
                            have H' := Aside0.mk H
                            clear H
                            obtain ⟨Ao17, co17, eo17⟩ := Kd.R_slice HO_7.out
                            subst eo17
                            have p242 : 0 ≤ (x12_3 : Int) := of_decide_eq_true (by first | (with_reducible assumption) | assumption)
                            have q242 : x12_3 < (t237.length : Int) := of_decide_eq_true (by first | (with_reducible assumption) | assumption)
                            obtain ⟨ad242, e242, hx242_0⟩ := Kd.at_int (Kd.R_reads' HO_7.out).2.2 x12_3 p242 q242
                            cases e242
                            replace p242 := eq_true p242
                            replace q242 := eq_true q242
                            go_wp2_with (first | ((with_reducible refine gate_builtin (b := .append) (xs := #[.tmp 50, .tmp 57]) rfl ?_); (try (refine gate_guard (by rfl) ?_; dsimp only)); at_builtin; refine Kd.R_append Kd.bool (w0 := w) w.heap.size rfl (.tmp 50) (.tmp 57) 61 4 (.bool false) 1 rfl Try.underlying61 info4 rfl (by decide) (by omega) u10 x10_3 ((rd t237 x12_3) == (Int.tmod (wrap64 (a1)) (l0.length : Int))) [.bool ((rd t237 x12_3) == (Int.tmod (wrap64 (a1)) (l0.length : Int)))] (fun _ => True) (fun _ => False) rfl rfl ?aP (fun _ hk => hk.elim) ?aF ?aO ?aB ?aS ?aL ?_; (case aP => exact rfl); (case aB => exact (by repeat (first | (with_reducible first | exact HB.out | apply below_alloc | apply pw_below_drewN | apply below_drew1) | exact HB.out))); (case aF => exact (fun _ _ => trivial)); (case aO => exact (by (with_reducible repeat (first | apply Kd.R_alloc | apply Kd.R_drewN | apply Kd.R_drew)); exact HO_10.out)); (case aS => exact (below_size (by repeat (first | (with_reducible first | exact HB.out | apply below_alloc | apply pw_below_drewN | apply below_drew1) | exact HB.out)))); (case aL => have := LMc16.out; omega); intro v244 w18 ho hb hg hat; rw [← Ny243.out] at ho; have n0_ := Aside0.mk (Kd.R_over' (by (with_reducible repeat (first | apply Kd.R_alloc | apply Kd.R_drewN | apply Kd.R_drew)); exact HO_7.out) (Kd.R_typed (by (with_reducible repeat (first | apply Kd.R_alloc | apply Kd.R_drewN | apply Kd.R_drew)); exact HO_10.out)) (by decide) hg); have n1_ := Aside0.mk (hb); have n2_ := Aside0.mk (ho); clear HO_7; clear HB; clear HO_10; have HO_7 := n0_; have HB := n1_; have HO245 := n2_; clear n0_ n1_ n2_; clear ho hb hg hat))
                            go_roundg k3
                            case measure => have := HJ3.out; have := HK2.out; have := HK3.out; omega
                            case rel => exact ⟨(y243), (wrap64 (x12_3 + 1)), (by first | rfl | (simp; done) | (simp [*]; done)), H', ⟨by have := HJ3.out; have := HK2.out; have := HK3.out; omega⟩, ⟨by (with_reducible repeat (first | apply Kd.R_alloc | apply Kd.R_drewN | apply Kd.R_drew)); exact HO_7.out⟩, ⟨by (with_reducible repeat (first | apply Kd.R_alloc | apply Kd.R_drewN | apply Kd.R_drew)); exact HO245.out⟩, ⟨by repeat (first | (with_reducible first | exact HB.out | apply below_alloc | apply pw_below_drewN | apply below_drew1) | exact HB.out)⟩⟩
                          · rw [if_neg c16] at H
                            exact absurd H (by simp)
                        · rw [if_neg c15] at H
                          exact absurd H (by simp)
                      · rw [if_neg c14] at H
                        have c14b0 : decide (x12_3 < (t237.length : Int)) = false := decide_eq_false c14
                        clear c14
                        have H' := Aside0.mk H
                        clear H
                        obtain ⟨Ao19, co19, eo19⟩ := Kd.R_slice HO_7.out
                        subst eo19
                        go_wp2
                        go_roundg k3
                        case measure => have := HJ3.out; have := HK2.out; have := HK3.out; omega
                        case rel => exact ⟨(x10_3), (wrap64 (x11_2 + 1)), (by first | rfl | (simp; done) | (simp [*]; done)), H', ⟨by have := HJ3.out; have := HK2.out; have := HK3.out; omega⟩, ⟨by (with_reducible repeat (first | apply Kd.R_alloc | apply Kd.R_drewN | apply Kd.R_drew)); exact HO_7.out⟩, ⟨by (with_reducible repeat (first | apply Kd.R_alloc | apply Kd.R_drewN | apply Kd.R_drew)); exact HO_10.out⟩, ⟨by repeat (first | (with_reducible first | exact HB.out | apply below_alloc | apply pw_below_drewN | apply below_drew1) | exact HB.out)⟩⟩
                · rw [if_neg c13] at H
                  have c13b0 : decide (x11_2 < 3) = false := decide_eq_false c13
                  clear c13
                  have HC20 := Aside0.mk H
                  clear H
                  go_upto_region 15 with (fail)
                  go_cut [74] (fun v74 wc => ∃ (kq : Nat) (x74_19 : Bool), v74 = .bool x74_19 ∧ Aside0 (remontoirlaw12_SynthSupplies.j3 kq l0 a2 (Int.tmod (wrap64 (a1)) (l0.length : Int)) x10_2 x74_19 = some true) ∧ Aside0 (kq ≤ k2) ∧ Aside0 (Kd.R Kd.bool 4 wc w.heap.size (fun _ => True) u10 x10_2) ∧ Aside0 (Below w.heap.size w wc))
                  case first =>
                    have H := HC20.out
                    clear HC20
                    obtain ⟨ji21, hji21⟩ : ∃ j_ : Int, (Int.tmod (wrap64 (a1)) (l0.length : Int)) = j_ := ⟨_, rfl⟩
                    replace H : (if 0 ≤ (ji21) then (if (ji21) < (l0.length : Int) then ((remontoirref09_Legal.f k2 ((rd_T54 l0 (ji21)).f0) ((rd_T54 l0 (ji21)).f1) x10_2).bind fun t247 => (if t247 = true then ((supply_Legal.f k2 ((rd_T54 l0 (ji21)).f0) ((rd_T54 l0 (ji21)).f1) x10_2).bind fun t249 => (remontoirlaw12_SynthSupplies.j3 k2 l0 a2 (ji21) x10_2 (!t249))) else (remontoirlaw12_SynthSupplies.j3 k2 l0 a2 (ji21) x10_2 true))) else (none)) else (none)) = some true := by first | (rw [hji21] at H; exact H) | (simp only [hji21] at H ⊢; exact H)
                    by_cases c22 : 0 ≤ (ji21)
                    · rw [if_pos c22] at H
                      have c22b0 : decide (0 ≤ (ji21)) = true := decide_eq_true c22
                      clear c22
                      (first | rw [c22b0] | (simp only [i64_w, i32_w]; rw [c22b0]) | rw [c22b1] | (simp only [i64_w, i32_w]; rw [c22b1]) | skip)
                      by_cases c23 : (ji21) < (l0.length : Int)
                      · rw [if_pos c23] at H
                        have c23b0 : decide ((ji21) < (l0.length : Int)) = true := decide_eq_true c23
                        clear c23
                        replace H := Option.bind_eq_some_iff.mp H
                        obtain ⟨t247, A240, H⟩ := H
                        replace H : (if t247 = true then ((supply_Legal.f k2 ((rd_T54 l0 (ji21)).f0) ((rd_T54 l0 (ji21)).f1) x10_2).bind fun t249 => (remontoirlaw12_SynthSupplies.j3 k2 l0 a2 (ji21) x10_2 (!t249))) else (remontoirlaw12_SynthSupplies.j3 k2 l0 a2 (ji21) x10_2 true)) = some true := H
                        have A24 := Aside0.mk A240
                        clear A240
                        by_cases c25 : t247 = true
                        · subst c25
                          have H1 : ((supply_Legal.f k2 ((rd_T54 l0 (ji21)).f0) ((rd_T54 l0 (ji21)).f1) x10_2).bind fun t249 => (remontoirlaw12_SynthSupplies.j3 k2 l0 a2 (ji21) x10_2 (!t249))) = some true := by rw [if_pos rfl] at H; exact H
                          clear H
                          have H := H1
                          clear H1
                          replace H := Option.bind_eq_some_iff.mp H
                          obtain ⟨t249, A260, H⟩ := H
                          replace H : (remontoirlaw12_SynthSupplies.j3 k2 l0 a2 (ji21) x10_2 (!t249)) = some true := H
                          have A26 := Aside0.mk A260
                          clear A260
                          have H' := Aside0.mk H
                          clear H
                          have p246 : 0 ≤ ((ji21) : Int) := of_decide_eq_true (by first | (with_reducible assumption) | assumption)
                          have q246 : (ji21) < (l0.length : Int) := of_decide_eq_true (by first | (with_reducible assumption) | assumption)
                          obtain ⟨ad246, e246, hx246_0, hx246_1⟩ := at_T54 HR0.out (ji21) p246 q246
                          cases e246
                          replace hx246_0 := (HB.out.cell (World.block_lt_of_cell? w _ hx246_0)).trans hx246_0
                          replace hx246_1 := (HB.out.cell (World.block_lt_of_cell? w _ hx246_1)).trans hx246_1
                          replace p246 := eq_true p246
                          replace q246 := eq_true q246
                          obtain ⟨Ao27, co27, eo27⟩ := Kd.R_slice HO_10.out
                          subst eo27
                          go_wp2_with (first | ((with_reducible refine gate_callee (f := 31) rfl ?_); refine goesL_ (some 64) rfl rfl Try.func31 (by kernel_rfl) rfl #[.agg #[.int .i64 ((rd_T54 l0 (ji21)).f0), .int .i64 ((rd_T54 l0 (ji21)).f1)], .slice Ao27 x10_2.length co27] rfl (by (try simp only [List.map_toArray, List.map_cons, List.map_nil]); first | done | (simp only [hji21]; rfl) | rfl | (simp only [List.length_drop, List.length_take]; rfl)) ?_; (with_reducible refine (remontoirref09_Legal.calls k2 ((rd_T54 l0 (ji21)).f0) ((rd_T54 l0 (ji21)).f1) _ _ x10_2 true _ ?side1 ?side2 A24.out).mono ?_); (case side1 => repeat (first | exact (Kd.R_reads' HO_10.out).2.2 | (with_reducible refine Kd.C_alloc ?_ _) | (with_reducible refine Kd.C_drewN ?_ _) | (with_reducible refine Kd.C_drew ?_))); (case side2 => exact (Kd.R_reads' HO_10.out).2.1); rintro e w28 ⟨rfl, hb⟩; refine ⟨_, rfl, ?_⟩; have n0_ := Aside0.mk (Kd.R_below (by (with_reducible repeat (first | apply Kd.R_alloc | apply Kd.R_drewN | apply Kd.R_drew)); exact HO_7.out) hb); have n1_ := Aside0.mk (Kd.R_below (by (with_reducible repeat (first | apply Kd.R_alloc | apply Kd.R_drewN | apply Kd.R_drew)); exact HO_10.out) hb); have n2_ := Aside0.mk (below_step (by repeat (first | (with_reducible first | exact HB.out | apply below_alloc | apply pw_below_drewN | apply below_drew1) | exact HB.out)) hb); clear HO_7; clear HO_10; clear HB; have HO_7 := n0_; have HO_10 := n1_; have HB := n2_; clear n0_ n1_ n2_; (try clear hb); (try clear hb2); (try clear hk); (try clear hi); have p248 : 0 ≤ ((ji21) : Int) := of_decide_eq_true (by first | (with_reducible assumption) | assumption); have q248 : (ji21) < (l0.length : Int) := of_decide_eq_true (by first | (with_reducible assumption) | assumption); obtain ⟨ad248, e248, hx248_0, hx248_1⟩ := at_T54 HR0.out (ji21) p248 q248; obtain rfl : ad246 = ad248 := (by injection e248); replace hx248_0 := (HB.out.cell (World.block_lt_of_cell? w _ hx248_0)).trans hx248_0; replace hx248_1 := (HB.out.cell (World.block_lt_of_cell? w _ hx248_1)).trans hx248_1; replace p248 := eq_true p248; replace q248 := eq_true q248) | (go_at_call 32; (with_reducible refine (supply_Legal.calls k2 ((rd_T54 l0 (ji21)).f0) ((rd_T54 l0 (ji21)).f1) _ _ x10_2 t249 _ ?side1 ?side2 A26.out).mono ?_); (case side1 => repeat (first | exact (Kd.R_reads' HO_10.out).2.2 | (with_reducible refine Kd.C_alloc ?_ _) | (with_reducible refine Kd.C_drewN ?_ _) | (with_reducible refine Kd.C_drew ?_))); (case side2 => exact (Kd.R_reads' HO_10.out).2.1); rintro e w29 ⟨rfl, hb⟩; have n0_ := Aside0.mk (Kd.R_below (by (with_reducible repeat (first | apply Kd.R_alloc | apply Kd.R_drewN | apply Kd.R_drew)); exact HO_7.out) hb); have n1_ := Aside0.mk (Kd.R_below (by (with_reducible repeat (first | apply Kd.R_alloc | apply Kd.R_drewN | apply Kd.R_drew)); exact HO_10.out) hb); have n2_ := Aside0.mk (below_step (by repeat (first | (with_reducible first | exact HB.out | apply below_alloc | apply pw_below_drewN | apply below_drew1) | exact HB.out)) hb); clear HO_7; clear HO_10; clear HB; have HO_7 := n0_; have HO_10 := n1_; have HB := n2_; clear n0_ n1_ n2_; (try clear hb); (try clear hb2); (try clear hk); (try clear hi)))
                          subst hji21
                          go_meet
                          case rel => exact ⟨_, (!t249), (by first | rfl | (simp; done) | (simp [*]; done)), H', ⟨by have := HJ3.out; have := HK2.out; first | omega | exact Nat.le_refl _⟩, ⟨by (with_reducible repeat (first | apply Kd.R_alloc | apply Kd.R_drewN | apply Kd.R_drew)); exact HO_10.out⟩, ⟨by repeat (first | (with_reducible first | exact HB.out | apply below_alloc | apply pw_below_drewN | apply below_drew1) | exact HB.out)⟩⟩
                        · replace c25 := Bool.eq_false_iff.mpr c25
                          subst c25
                          have H1 : (remontoirlaw12_SynthSupplies.j3 k2 l0 a2 (ji21) x10_2 true) = some true := by rw [if_neg (show ¬ (false = true) by decide)] at H; exact H
                          clear H
                          have H := H1
                          clear H1
                          have H' := Aside0.mk H
                          clear H
                          have p246 : 0 ≤ ((ji21) : Int) := of_decide_eq_true (by first | (with_reducible assumption) | assumption)
                          have q246 : (ji21) < (l0.length : Int) := of_decide_eq_true (by first | (with_reducible assumption) | assumption)
                          obtain ⟨ad246, e246, hx246_0, hx246_1⟩ := at_T54 HR0.out (ji21) p246 q246
                          cases e246
                          replace hx246_0 := (HB.out.cell (World.block_lt_of_cell? w _ hx246_0)).trans hx246_0
                          replace hx246_1 := (HB.out.cell (World.block_lt_of_cell? w _ hx246_1)).trans hx246_1
                          replace p246 := eq_true p246
                          replace q246 := eq_true q246
                          obtain ⟨Ao30, co30, eo30⟩ := Kd.R_slice HO_10.out
                          subst eo30
                          go_wp2_with (first | ((with_reducible refine gate_callee (f := 31) rfl ?_); refine goesL_ (some 64) rfl rfl Try.func31 (by kernel_rfl) rfl #[.agg #[.int .i64 ((rd_T54 l0 (ji21)).f0), .int .i64 ((rd_T54 l0 (ji21)).f1)], .slice Ao30 x10_2.length co30] rfl (by (try simp only [List.map_toArray, List.map_cons, List.map_nil]); first | done | (simp only [hji21]; rfl) | rfl | (simp only [List.length_drop, List.length_take]; rfl)) ?_; (with_reducible refine (remontoirref09_Legal.calls k2 ((rd_T54 l0 (ji21)).f0) ((rd_T54 l0 (ji21)).f1) _ _ x10_2 false _ ?side1 ?side2 A24.out).mono ?_); (case side1 => repeat (first | exact (Kd.R_reads' HO_10.out).2.2 | (with_reducible refine Kd.C_alloc ?_ _) | (with_reducible refine Kd.C_drewN ?_ _) | (with_reducible refine Kd.C_drew ?_))); (case side2 => exact (Kd.R_reads' HO_10.out).2.1); rintro e w31 ⟨rfl, hb⟩; refine ⟨_, rfl, ?_⟩; have n0_ := Aside0.mk (Kd.R_below (by (with_reducible repeat (first | apply Kd.R_alloc | apply Kd.R_drewN | apply Kd.R_drew)); exact HO_7.out) hb); have n1_ := Aside0.mk (Kd.R_below (by (with_reducible repeat (first | apply Kd.R_alloc | apply Kd.R_drewN | apply Kd.R_drew)); exact HO_10.out) hb); have n2_ := Aside0.mk (below_step (by repeat (first | (with_reducible first | exact HB.out | apply below_alloc | apply pw_below_drewN | apply below_drew1) | exact HB.out)) hb); clear HO_7; clear HO_10; clear HB; have HO_7 := n0_; have HO_10 := n1_; have HB := n2_; clear n0_ n1_ n2_; (try clear hb); (try clear hb2); (try clear hk); (try clear hi)))
                          subst hji21
                          go_meet
                          case rel => exact ⟨_, (true), (by first | rfl | (simp; done) | (simp [*]; done)), H', ⟨by have := HJ3.out; have := HK2.out; first | omega | exact Nat.le_refl _⟩, ⟨by (with_reducible repeat (first | apply Kd.R_alloc | apply Kd.R_drewN | apply Kd.R_drew)); exact HO_10.out⟩, ⟨by repeat (first | (with_reducible first | exact HB.out | apply below_alloc | apply pw_below_drewN | apply below_drew1) | exact HB.out)⟩⟩
                      · rw [if_neg c23] at H
                        exact absurd H (by simp)
                    · rw [if_neg c22] at H
                      exact absurd H (by simp)
                  case rest =>
                    clear HC20
                    try clear c1
                    try clear c2
                    try clear p2
                    try clear q2
                    try clear hx2
                    try clear c3
                    try clear c5
                    try clear c5b0
                    try clear c5b1
                    try clear c6
                    try clear p6
                    try clear c10
                    try clear c10b0
                    try clear c10b1
                    try clear c11
                    try clear c11b0
                    try clear c11b1
                    try clear c11b2
                    try clear c13
                    try clear c13b0
                    try clear c14
                    try clear c14b0
                    try clear c15
                    try clear c15b0
                    try clear c16
                    try clear c22
                    try clear c22b0
                    try clear c23
                    try clear c23b0
                    try clear p24
                    try clear q24
                    try clear hx24
                    try clear c25
                    try clear c26
                    try clear c31
                    try clear hx242_0
                    try clear hx246_0
                    try clear hx246_1
                    try clear hx248_0
                    try clear hx248_1
                    try clear p2
                    try clear p242
                    try clear p246
                    try clear p248
                    try clear p6
                    try clear q242
                    try clear q246
                    try clear q248
                    obtain ⟨kq, x74_19, rfl, HA, HJ19, HO_10, HB⟩ := hcut
                    cases kq with
                    | zero => exact absurd HA.out (by simp [remontoirlaw12_SynthSupplies.j3])
                    | succ kj19 =>
                      have H := HA.out
                      clear HA
                      simp only [remontoirlaw12_SynthSupplies.j3] at H
                      by_cases c32 : x74_19 = true
                      · subst c32
                        have H1 : (some false) = some true := by rw [if_pos rfl] at H; exact H
                        clear H
                        have H := H1
                        clear H1
                        exact absurd H (by simp)
                      · replace c32 := Bool.eq_false_iff.mpr c32
                        subst c32
                        have H1 : (if a2 < 1 then (remontoirlaw12_SynthSupplies.j4 kj19 l0 a2 (Int.tmod (wrap64 (a1)) (l0.length : Int)) x10_2 true) else (remontoirlaw12_SynthSupplies.j4 kj19 l0 a2 (Int.tmod (wrap64 (a1)) (l0.length : Int)) x10_2 (decide (a2 > (x10_2.length : Int))))) = some true := by rw [if_neg (show ¬ (false = true) by decide)] at H; exact H
                        clear H
                        have H := H1
                        clear H1
                        have HC33 := Aside0.mk H
                        clear H
                        go_upto_region 17 with (fail)
                        go_cut [82] (fun v82 wc => ∃ (kq : Nat) (x82_32 : Bool), v82 = .bool x82_32 ∧ Aside0 (remontoirlaw12_SynthSupplies.j4 kq l0 a2 (Int.tmod (wrap64 (a1)) (l0.length : Int)) x10_2 x82_32 = some true) ∧ Aside0 (kq ≤ kj19) ∧ Aside0 (Kd.R Kd.bool 4 wc w.heap.size (fun _ => True) u10 x10_2) ∧ Aside0 (Below w.heap.size w wc))
                        case first =>
                          have H := HC33.out
                          clear HC33
                          by_cases c34 : a2 < 1
                          · rw [if_pos c34] at H
                            have c34b0 : decide (a2 < 1) = true := decide_eq_true c34
                            clear c34
                            (first | rw [c34b0] | (simp only [i64_w, i32_w]; rw [c34b0]) | rw [c34b1] | (simp only [i64_w, i32_w]; rw [c34b1]) | skip)
                            have H' := Aside0.mk H
                            clear H
                            go_wp2
                            go_meet
                            case rel => exact ⟨_, (true), (by first | rfl | (simp; done) | (simp [*]; done)), H', ⟨by have := HJ3.out; have := HK2.out; have := HJ19.out; first | omega | exact Nat.le_refl _⟩, ⟨by (with_reducible repeat (first | apply Kd.R_alloc | apply Kd.R_drewN | apply Kd.R_drew)); exact HO_10.out⟩, ⟨by repeat (first | (with_reducible first | exact HB.out | apply below_alloc | apply pw_below_drewN | apply below_drew1) | exact HB.out)⟩⟩
                          · rw [if_neg c34] at H
                            have c34b0 : decide (a2 < 1) = false := decide_eq_false c34
                            clear c34
                            (first | rw [c34b0] | (simp only [i64_w, i32_w]; rw [c34b0]) | rw [c34b1] | (simp only [i64_w, i32_w]; rw [c34b1]) | skip)
                            have H' := Aside0.mk H
                            clear H
                            obtain ⟨Ao35, co35, eo35⟩ := Kd.R_slice HO_10.out
                            subst eo35
                            go_wp2
                            go_meet
                            case rel => exact ⟨_, (decide (a2 > (x10_2.length : Int))), (by first | rfl | (simp; done) | (simp [*]; done)), H', ⟨by have := HJ3.out; have := HK2.out; have := HJ19.out; first | omega | exact Nat.le_refl _⟩, ⟨by (with_reducible repeat (first | apply Kd.R_alloc | apply Kd.R_drewN | apply Kd.R_drew)); exact HO_10.out⟩, ⟨by repeat (first | (with_reducible first | exact HB.out | apply below_alloc | apply pw_below_drewN | apply below_drew1) | exact HB.out)⟩⟩
                        case rest =>
                          clear HC33
                          try clear c1
                          try clear c2
                          try clear p2
                          try clear q2
                          try clear hx2
                          try clear c3
                          try clear c5
                          try clear c5b0
                          try clear c5b1
                          try clear c6
                          try clear p6
                          try clear c10
                          try clear c10b0
                          try clear c10b1
                          try clear c11
                          try clear c11b0
                          try clear c11b1
                          try clear c11b2
                          try clear c13
                          try clear c13b0
                          try clear c14
                          try clear c14b0
                          try clear c15
                          try clear c15b0
                          try clear c16
                          try clear c22
                          try clear c22b0
                          try clear c23
                          try clear c23b0
                          try clear p24
                          try clear q24
                          try clear hx24
                          try clear c25
                          try clear c26
                          try clear c31
                          try clear c32
                          try clear c34
                          try clear c34b0
                          try clear hx242_0
                          try clear hx246_0
                          try clear hx246_1
                          try clear hx248_0
                          try clear hx248_1
                          try clear p2
                          try clear p24
                          try clear p242
                          try clear p246
                          try clear p248
                          try clear p6
                          try clear q2
                          try clear q24
                          try clear q242
                          try clear q246
                          try clear q248
                          obtain ⟨kq, x82_32, rfl, HA, HJ32, HO_10, HB⟩ := hcut
                          cases kq with
                          | zero => exact absurd HA.out (by simp [remontoirlaw12_SynthSupplies.j4])
                          | succ kj32 =>
                            have H := HA.out
                            clear HA
                            simp only [remontoirlaw12_SynthSupplies.j4] at H
                            by_cases c36 : x82_32 = true
                            · subst c36
                              have H1 : ((remontoirlaw12_knows.f kj32).bind fun t250 => (some t250)) = some true := by rw [if_pos rfl] at H; exact H
                              clear H
                              have H := H1
                              clear H1
                              replace H := Option.bind_eq_some_iff.mp H
                              obtain ⟨t250, A370, H⟩ := H
                              replace H : (some t250) = some true := H
                              have A37 := Aside0.mk A370
                              clear A370
                              have HR_ := Aside0.mk (Option.some.inj H)
                              clear H
                              go_wp2_with (first | ((with_reducible refine gate_callee (f := 25) rfl ?_); refine goesL_ (some 83) rfl rfl Try.func25 (by kernel_rfl) rfl #[] rfl (by (try simp only [List.map_toArray, List.map_cons, List.map_nil]); first | done | rfl | (simp only [List.length_drop, List.length_take]; rfl)) ?_; (with_reducible refine (remontoirlaw12_knows.calls kj32  t250 _ A37.out).mono ?_); rintro e w38 ⟨rfl, hb⟩; refine ⟨_, rfl, ?_⟩; have n0_ := Aside0.mk (Kd.R_below (by (with_reducible repeat (first | apply Kd.R_alloc | apply Kd.R_drewN | apply Kd.R_drew)); exact HO_10.out) hb); have n1_ := Aside0.mk (below_step (by repeat (first | (with_reducible first | exact HB.out | apply below_alloc | apply pw_below_drewN | apply below_drew1) | exact HB.out)) hb); clear HO_10; clear HB; have HO_10 := n0_; have HB := n1_; clear n0_ n1_; (try clear hb); (try clear hb2); (try clear hk); (try clear hi)))
                              go_ret
                              exact ⟨by first | rfl | (rw [HR_.out] <;> rfl) | (simp [errW_none, errW_some] <;> rfl) | (simp [*, errW_none, errW_some] <;> rfl), by repeat (first | (with_reducible first | exact HB.out | apply below_alloc | apply pw_below_drewN | apply below_drew1) | exact HB.out)⟩
                            · replace c36 := Bool.eq_false_iff.mpr c36
                              subst c36
                              have H1 : ((supply_Least.f kj32 x10_2 a2).bind fun t251 => (if 0 ≤ (Int.tmod (wrap64 (a1)) (l0.length : Int)) then (if (Int.tmod (wrap64 (a1)) (l0.length : Int)) < (l0.length : Int) then ((remontoirref09_Bound.f kj32 ((rd_T54 l0 (Int.tmod (wrap64 (a1)) (l0.length : Int))).f0) ((rd_T54 l0 (Int.tmod (wrap64 (a1)) (l0.length : Int))).f1) a2).bind fun t253 => (if t251 ≥ t253 then ((remontoirlaw12_knows.f kj32).bind fun t254 => (some t254)) else (some false))) else (none)) else (none))) = some true := by rw [if_neg (show ¬ (false = true) by decide)] at H; exact H
                              clear H
                              have H := H1
                              clear H1
                              replace H := Option.bind_eq_some_iff.mp H
                              obtain ⟨t251, A390, H⟩ := H
                              replace H : (if 0 ≤ (Int.tmod (wrap64 (a1)) (l0.length : Int)) then (if (Int.tmod (wrap64 (a1)) (l0.length : Int)) < (l0.length : Int) then ((remontoirref09_Bound.f kj32 ((rd_T54 l0 (Int.tmod (wrap64 (a1)) (l0.length : Int))).f0) ((rd_T54 l0 (Int.tmod (wrap64 (a1)) (l0.length : Int))).f1) a2).bind fun t253 => (if t251 ≥ t253 then ((remontoirlaw12_knows.f kj32).bind fun t254 => (some t254)) else (some false))) else (none)) else (none)) = some true := H
                              have A39 := Aside0.mk A390
                              clear A390
                              obtain ⟨ji40, hji40⟩ : ∃ j_ : Int, (Int.tmod (wrap64 (a1)) (l0.length : Int)) = j_ := ⟨_, rfl⟩
                              replace H : (if 0 ≤ (ji40) then (if (ji40) < (l0.length : Int) then ((remontoirref09_Bound.f kj32 ((rd_T54 l0 (ji40)).f0) ((rd_T54 l0 (ji40)).f1) a2).bind fun t253 => (if t251 ≥ t253 then ((remontoirlaw12_knows.f kj32).bind fun t254 => (some t254)) else (some false))) else (none)) else (none)) = some true := by first | (rw [hji40] at H; exact H) | (simp only [hji40] at H ⊢; exact H)
                              (try rw [hji40] at A39)
                              by_cases c41 : 0 ≤ (ji40)
                              · rw [if_pos c41] at H
                                have c41b0 : decide (0 ≤ (ji40)) = true := decide_eq_true c41
                                clear c41
                                by_cases c42 : (ji40) < (l0.length : Int)
                                · rw [if_pos c42] at H
                                  have c42b0 : decide ((ji40) < (l0.length : Int)) = true := decide_eq_true c42
                                  clear c42
                                  replace H := Option.bind_eq_some_iff.mp H
                                  obtain ⟨t253, A430, H⟩ := H
                                  replace H : (if t251 ≥ t253 then ((remontoirlaw12_knows.f kj32).bind fun t254 => (some t254)) else (some false)) = some true := H
                                  have A43 := Aside0.mk A430
                                  clear A430
                                  by_cases c44 : t251 ≥ t253
                                  · rw [if_pos c44] at H
                                    have c44b0 : decide (t253 ≤ t251) = true := decide_eq_true c44
                                    clear c44
                                    replace H := Option.bind_eq_some_iff.mp H
                                    obtain ⟨t254, A450, H⟩ := H
                                    replace H : (some t254) = some true := H
                                    have A45 := Aside0.mk A450
                                    clear A450
                                    have HR_ := Aside0.mk (Option.some.inj H)
                                    clear H
                                    try go_wp2
                                    have n0_ := Aside0.mk (Kd.R_drew HO_10.out)
                                    have n1_ := Aside0.mk (below_drew1 HB.out)
                                    clear HO_10
                                    clear HB
                                    have HO_10 := n0_
                                    have HB := n1_
                                    clear n0_ n1_
                                    have p252 : 0 ≤ ((ji40) : Int) := of_decide_eq_true (by first | (with_reducible assumption) | assumption)
                                    have q252 : (ji40) < (l0.length : Int) := of_decide_eq_true (by first | (with_reducible assumption) | assumption)
                                    obtain ⟨ad252, e252, hx252_0, hx252_1⟩ := at_T54 HR0.out (ji40) p252 q252
                                    have hw252_1 := hx252_1
                                    have hw252_0 := hx252_0
                                    cases e252
                                    replace hx252_0 := (HB.out.cell (World.block_lt_of_cell? w _ hx252_0)).trans hx252_0
                                    replace hx252_1 := (HB.out.cell (World.block_lt_of_cell? w _ hx252_1)).trans hx252_1
                                    replace p252 := eq_true p252
                                    replace q252 := eq_true q252
                                    obtain ⟨Ao47, co47, eo47⟩ := Kd.R_slice HO_10.out
                                    (first | subst eo47 | (injection eo47 with f1_ f2_ f3_; have f4_ := f1_.symm; have f5_ := f3_.symm; clear f1_ f2_ f3_; subst f4_; subst f5_))
                                    refine start_ (n := 14) (S := fun w' => w'.cell? (ad252.add (((ji40)).toNat * 2)) = some (.int .i64 ((rd_T54 l0 (ji40)).f0)) ∧ w'.cell? ⟨(ad252.add (((ji40)).toNat * 2)).block, (ad252.add (((ji40)).toNat * 2)).off + 1, none⟩ = some (.int .i64 ((rd_T54 l0 (ji40)).f1))) (ds := []) #[false, false, false, false, false, false, false, false, false, false, false, false, false, false] (by kernel_rfl) rfl rfl ⟨((HB.out.cell (World.block_lt_of_cell? w _ hw252_0)).trans hw252_0), ((HB.out.cell (World.block_lt_of_cell? w _ hw252_1)).trans hw252_1)⟩ (fun hHeld => ?_); refine with_tabW remontoirlaw12_SynthSupplies.tab19 remontoirlaw12_SynthSupplies.bits19 (fun HT_ HW_ => ?_)
                                    generalize wc.drew = w46 at HO_10 HB hx252_0 hx252_1 hHeld ⊢
                                    refine pure_ (i := 0) (N := some 84) (v := ?_) (a' := ?_) #[true, false, false, false, false, false, false, false, false, false, false, false, false, false] rfl rfl (any_of HT_.out (by kernel_rfl)) (fun _ _ _ h => h) (Or.inl ⟨by rfl, ?_⟩) ?_ ?_
                                    rotate_left
                                    · intro w'
                                      go_simp
                                      with_reducible rfl
                                    rotate_left
                                    · simp only [Act.put, List.setIfInBounds_toArray, List.set_cons_zero, List.set_cons_succ, i64_w, i32_w]
                                      rfl
                                    refine pure_ (i := 1) (N := some 85) (v := ?_) (a' := ?_) #[true, true, false, false, false, false, false, false, false, false, false, false, false, false] rfl rfl (any_of HT_.out (by kernel_rfl)) (fun _ _ _ h => h) (Or.inl ⟨by rfl, ?_⟩) ?_ ?_
                                    rotate_left
                                    · intro w'
                                      go_simp
                                      with_reducible rfl
                                    rotate_left
                                    · simp only [Act.put, List.setIfInBounds_toArray, List.set_cons_zero, List.set_cons_succ, i64_w, i32_w]
                                      rfl
                                    refine pure_ (i := 3) (N := some 87) (v := ?_) (a' := ?_) #[true, true, false, true, false, false, false, false, false, false, false, false, false, false] rfl rfl (any_of HT_.out (by kernel_rfl)) (fun _ _ _ h => h) (Or.inl ⟨by rfl, ?_⟩) ?_ ?_
                                    rotate_left
                                    · intro w'
                                      go_simp
                                      with_reducible rfl
                                    rotate_left
                                    · simp only [Act.put, List.setIfInBounds_toArray, List.set_cons_zero, List.set_cons_succ, i64_w, i32_w]
                                      rfl
                                    refine pure_ (i := 4) (N := some 88) (v := ?_) (a' := ?_) #[true, true, false, true, true, false, false, false, false, false, false, false, false, false] rfl rfl (any_of HT_.out (by kernel_rfl)) (fun _ _ _ h => h) (Or.inl ⟨by rfl, ?_⟩) ?_ ?_
                                    rotate_left
                                    · intro w'
                                      go_simp
                                      with_reducible rfl
                                    rotate_left
                                    · simp only [Act.put, List.setIfInBounds_toArray, List.set_cons_zero, List.set_cons_succ, i64_w, i32_w]
                                      rfl
                                    refine pure_ (i := 5) (N := some 89) (v := ?_) (a' := ?_) #[true, true, false, true, true, true, false, false, false, false, false, false, false, false] rfl rfl (any_of HT_.out (by kernel_rfl)) (fun _ _ _ h => h) (Or.inl ⟨by rfl, ?_⟩) ?_ ?_
                                    rotate_left
                                    · intro w'
                                      go_simp
                                      with_reducible rfl
                                    rotate_left
                                    · simp only [Act.put, List.setIfInBounds_toArray, List.set_cons_zero, List.set_cons_succ, i64_w, i32_w]
                                      rfl
                                    refine pure_ (i := 7) (N := some 91) (v := ?_) (a' := ?_) #[true, true, false, true, true, true, false, true, false, false, false, false, false, false] rfl rfl (any_of HT_.out (by kernel_rfl)) (fun _ _ _ h => h) (Or.inl ⟨by rfl, ?_⟩) ?_ ?_
                                    rotate_left
                                    · intro w'
                                      go_simp
                                      with_reducible rfl
                                    rotate_left
                                    · simp only [Act.put, List.setIfInBounds_toArray, List.set_cons_zero, List.set_cons_succ, i64_w, i32_w]
                                      rfl
                                    refine take_ (i := 6) (N := some 90) (v := ?_) (a' := ?_) #[true, true, false, true, true, true, true, true, false, false, false, false, false, false] rfl rfl (take_ofW HT_.out HW_.out (by kernel_rfl)) (fun _ _ _ h => h) (Or.inl ⟨by rfl, ?_⟩) hHeld ?_ ?_
                                    rotate_left
                                    · rintro w' ⟨s0, s1⟩
                                      go_simp
                                      with_reducible rfl
                                    rotate_left
                                    · simp only [Act.put, List.setIfInBounds_toArray, List.set_cons_zero, List.set_cons_succ, i64_w, i32_w]
                                      rfl
                                    refine one_ (i := 2) (N := some 86) #[true, true, true, true, true, true, true, true, false, false, false, false, false, false] rfl rfl (one_of HT_.out (by kernel_rfl)) (by decide) (fun K hK => ?_)
                                    refine goes_ Try.func33 (by kernel_rfl) rfl #[.slice Ao47 x10_2.length co47, .int .i64 a2] (by rfl) rfl rfl (by (try simp only [List.map_toArray, List.map_cons, List.map_nil]); first | done | rfl | (simp only [List.length_drop, List.length_take]; rfl)) ?_
                                    with_reducible refine (supply_Least.calls kj32 _ _ x10_2 a2 t251 _ ?side1 ?side2 A39.out).mono ?_
                                    (case side1 => repeat (first | exact (Kd.R_reads' HO_10.out).2.2 | (with_reducible refine Kd.C_alloc ?_ _) | (with_reducible refine Kd.C_drewN ?_ _) | (with_reducible refine Kd.C_drew ?_)))
                                    (case side2 => exact (Kd.R_reads' HO_10.out).2.1)
                                    rintro e w48 ⟨rfl, hb⟩
                                    refine ⟨_, rfl, ?_⟩
                                    have n0_ := Aside0.mk (Kd.R_below (by (with_reducible repeat (first | apply Kd.R_alloc | apply Kd.R_drewN | apply Kd.R_drew)); exact HO_10.out) hb)
                                    have n1_ := Aside0.mk (below_step (by repeat (first | (with_reducible first | exact HB.out | apply below_alloc | apply pw_below_drewN | apply below_drew1) | exact HB.out)) hb)
                                    clear HO_10
                                    clear HB
                                    have HO_10 := n0_
                                    have HB := n1_
                                    clear n0_ n1_
                                    (try clear hb)
                                    (try clear hb2)
                                    (try clear hk)
                                    (try clear hi)
                                    refine hK.out _ _ ⟨((HB.out.cell (World.block_lt_of_cell? w _ hw252_0)).trans hw252_0), ((HB.out.cell (World.block_lt_of_cell? w _ hw252_1)).trans hw252_1)⟩ (fun hHeld => ?_)
                                    clear hK K
                                    refine norm_ (a' := ?_) ?_ ?_
                                    rotate_left
                                    · show Act.put _ (some 86) _ = _
                                      simp only [Act.put, List.setIfInBounds_toArray, List.set_cons_zero, List.set_cons_succ, i64_w, i32_w]
                                      rfl
                                    refine one_ (i := 8) (N := some 92) #[true, true, true, true, true, true, true, true, true, false, false, false, false, false] rfl rfl (one_of HT_.out (by kernel_rfl)) (by decide) (fun K hK => ?_)
                                    refine goes_ Try.func34 (by kernel_rfl) rfl #[.agg #[.int .i64 ((rd_T54 l0 (ji40)).f0), .int .i64 ((rd_T54 l0 (ji40)).f1)], .int .i64 a2] (by rfl) rfl rfl (by (try simp only [List.map_toArray, List.map_cons, List.map_nil]); first | done | (simp only [hji40]; rfl) | rfl | (simp only [List.length_drop, List.length_take]; rfl)) ?_
                                    with_reducible refine (remontoirref09_Bound.calls kj32 ((rd_T54 l0 (ji40)).f0) ((rd_T54 l0 (ji40)).f1) a2 t253 _ A43.out).mono ?_
                                    rintro e w49 ⟨rfl, hb⟩
                                    refine ⟨_, rfl, ?_⟩
                                    have n0_ := Aside0.mk (Kd.R_below (by (with_reducible repeat (first | apply Kd.R_alloc | apply Kd.R_drewN | apply Kd.R_drew)); exact HO_10.out) hb)
                                    have n1_ := Aside0.mk (below_step (by repeat (first | (with_reducible first | exact HB.out | apply below_alloc | apply pw_below_drewN | apply below_drew1) | exact HB.out)) hb)
                                    clear HO_10
                                    clear HB
                                    have HO_10 := n0_
                                    have HB := n1_
                                    clear n0_ n1_
                                    (try clear hb)
                                    (try clear hb2)
                                    (try clear hk)
                                    (try clear hi)
                                    refine hK.out _ _ ⟨((HB.out.cell (World.block_lt_of_cell? w _ hw252_0)).trans hw252_0), ((HB.out.cell (World.block_lt_of_cell? w _ hw252_1)).trans hw252_1)⟩ (fun hHeld => ?_)
                                    clear hK K
                                    refine norm_ (a' := ?_) ?_ ?_
                                    rotate_left
                                    · show Act.put _ (some 92) _ = _
                                      simp only [Act.put, List.setIfInBounds_toArray, List.set_cons_zero, List.set_cons_succ, i64_w, i32_w]
                                      rfl
                                    refine pure_ (i := 9) (N := some 93) (v := ?_) (a' := ?_) #[true, true, true, true, true, true, true, true, true, true, false, false, false, false] rfl rfl (any_of HT_.out (by kernel_rfl)) (fun _ _ _ h => h) (Or.inl ⟨by rfl, ?_⟩) ?_ ?_
                                    rotate_left
                                    · intro w'
                                      go_simp
                                      with_reducible rfl
                                    rotate_left
                                    · simp only [Act.put, List.setIfInBounds_toArray, List.set_cons_zero, List.set_cons_succ, i64_w, i32_w]
                                      rfl
                                    refine pure_ (i := 10) (N := some 94) (v := ?_) (a' := ?_) #[true, true, true, true, true, true, true, true, true, true, true, false, false, false] rfl rfl (any_of HT_.out (by kernel_rfl)) (fun _ _ _ h => h) (Or.inl ⟨by rfl, ?_⟩) ?_ ?_
                                    rotate_left
                                    · intro w'
                                      go_simp
                                      with_reducible rfl
                                    rotate_left
                                    · simp only [Act.put, List.setIfInBounds_toArray, List.set_cons_zero, List.set_cons_succ, i64_w, i32_w]
                                      rfl
                                    refine one_ (i := 11) (N := some 95) #[true, true, true, true, true, true, true, true, true, true, true, true, false, false] rfl rfl (one_of HT_.out (by kernel_rfl)) (by decide) (fun K hK => ?_)
                                    refine goes_ Try.func25 (by kernel_rfl) rfl #[] (by rfl) rfl rfl (by (try simp only [List.map_toArray, List.map_cons, List.map_nil]); first | done | rfl | (simp only [List.length_drop, List.length_take]; rfl)) ?_
                                    with_reducible refine (remontoirlaw12_knows.calls kj32  t254 _ A45.out).mono ?_
                                    rintro e w50 ⟨rfl, hb⟩
                                    refine ⟨_, rfl, ?_⟩
                                    have n0_ := Aside0.mk (Kd.R_below (by (with_reducible repeat (first | apply Kd.R_alloc | apply Kd.R_drewN | apply Kd.R_drew)); exact HO_10.out) hb)
                                    have n1_ := Aside0.mk (below_step (by repeat (first | (with_reducible first | exact HB.out | apply below_alloc | apply pw_below_drewN | apply below_drew1) | exact HB.out)) hb)
                                    clear HO_10
                                    clear HB
                                    have HO_10 := n0_
                                    have HB := n1_
                                    clear n0_ n1_
                                    (try clear hb)
                                    (try clear hb2)
                                    (try clear hk)
                                    (try clear hi)
                                    refine hK.out _ _ ⟨((HB.out.cell (World.block_lt_of_cell? w _ hw252_0)).trans hw252_0), ((HB.out.cell (World.block_lt_of_cell? w _ hw252_1)).trans hw252_1)⟩ (fun hHeld => ?_)
                                    clear hK K
                                    refine norm_ (a' := ?_) ?_ ?_
                                    rotate_left
                                    · show Act.put _ (some 95) _ = _
                                      simp only [Act.put, List.setIfInBounds_toArray, List.set_cons_zero, List.set_cons_succ, i64_w, i32_w]
                                      rfl
                                    refine pure_ (i := 12) (N := some 96) (v := ?_) (a' := ?_) #[true, true, true, true, true, true, true, true, true, true, true, true, true, false] rfl rfl (any_of HT_.out (by kernel_rfl)) (fun _ _ _ h => h) (Or.inl ⟨by rfl, ?_⟩) ?_ ?_
                                    rotate_left
                                    · intro w'
                                      go_simp
                                      with_reducible rfl
                                    rotate_left
                                    · simp only [Act.put, List.setIfInBounds_toArray, List.set_cons_zero, List.set_cons_succ, i64_w, i32_w]
                                      rfl
                                    refine pure_ (i := 13) (N := some 6) (v := ?_) (a' := ?_) #[true, true, true, true, true, true, true, true, true, true, true, true, true, true] rfl rfl (any_of HT_.out (by kernel_rfl)) (fun _ _ _ h => h) (Or.inl ⟨by rfl, ?_⟩) ?_ ?_
                                    rotate_left
                                    · intro w'
                                      go_simp
                                      with_reducible rfl
                                    rotate_left
                                    · simp only [Act.put, List.setIfInBounds_toArray, List.set_cons_zero, List.set_cons_succ, i64_w, i32_w]
                                      rfl
                                    refine done_ (done_of HT_.out (by kernel_rfl)) ?_
                                    try go_wp2
                                    go_ret
                                    exact ⟨by first | rfl | (rw [HR_.out] <;> rfl) | (simp [errW_none, errW_some] <;> rfl) | (simp only [← hji40]; first | rfl | (simp [errW_none, errW_some] <;> rfl)) | (simp [*, errW_none, errW_some] <;> rfl), by repeat (first | (with_reducible first | exact HB.out | apply below_alloc | apply pw_below_drewN | apply below_drew1) | exact HB.out)⟩
                                  · rw [if_neg c44] at H
                                    have c44b0 : decide (t253 ≤ t251) = false := decide_eq_false c44
                                    clear c44
                                    exact absurd H (by simp)
                                · rw [if_neg c42] at H
                                  exact absurd H (by simp)
                              · rw [if_neg c41] at H
                                exact absurd H (by simp)
        · rw [if_neg c10] at H
          have c10b0 : (t238 == 0) = false := beq_eq_false_iff_ne.mpr c10
          have c10b1 : (t238 != 0) = true := bne_iff_ne.mpr c10
          by_cases c51 : (t237.length : Int) = 0
          · rw [if_pos c51] at H
            have c51b0 : ((t237.length : Int) == 0) = true := beq_iff_eq.mpr c51
            have c51b1 : ((t237.length : Int) != 0) = false := bne_eq_false_iff_eq.mpr c51
            clear c51
            replace H := Option.bind_eq_some_iff.mp H
            obtain ⟨t241, A520, H⟩ := H
            replace H : (some t241) = some true := H
            have A52 := Aside0.mk A520
            clear A520
            have HR_ := Aside0.mk (Option.some.inj H)
            clear H
            go_wp2_with (first | ((with_reducible refine gate_callee (f := 26) rfl ?_); refine goesL_ (some 24) rfl rfl Try.func26 (by kernel_rfl) rfl #[.slice A0 l0.length c0] rfl (by (try simp only [List.map_toArray, List.map_cons, List.map_nil]); first | done | rfl | (simp only [List.length_drop, List.length_take]; rfl)) ?_; (with_reducible refine (synth_Lay.calls kj3 _ _ l0 t237 t238 _ ?side1 ?side2 A9.out).mono ?_); (case side1 => repeat (first | exact (Kd.C_below HR0.out HB.out) | (with_reducible refine Kd.C_alloc ?_ _) | (with_reducible refine Kd.C_drewN ?_ _) | (with_reducible refine Kd.C_drew ?_))); (case side2 => exact HC0.out); rintro e w53 ⟨v239, rfl, ho0, hb⟩; refine ⟨_, rfl, ?_⟩; have n0_ := Aside0.mk (Kd.R_lower ho0 (below_size (by repeat (first | (with_reducible first | exact HB.out | apply below_alloc | apply pw_below_drewN | apply below_drew1) | exact HB.out)))); have n1_ := Aside0.mk (below_step (by repeat (first | (with_reducible first | exact HB.out | apply below_alloc | apply pw_below_drewN | apply below_drew1) | exact HB.out)) hb); clear HB; have HO240 := n0_; have HB := n1_; clear n0_ n1_; (try clear hb); (try clear hb2); (try clear hk); (try clear hi); (try clear ho0); obtain ⟨Ao54, co54, eo54⟩ := Kd.R_slice HO240.out; subst eo54) | (go_at_call 25; (with_reducible refine (remontoirlaw12_knows.calls kj3  t241 _ A52.out).mono ?_); rintro e w55 ⟨rfl, hb⟩; have n0_ := Aside0.mk (Kd.R_below (by (with_reducible repeat (first | apply Kd.R_alloc | apply Kd.R_drewN | apply Kd.R_drew)); exact HO240.out) hb); have n1_ := Aside0.mk (below_step (by repeat (first | (with_reducible first | exact HB.out | apply below_alloc | apply pw_below_drewN | apply below_drew1) | exact HB.out)) hb); clear HO240; clear HB; have HO240 := n0_; have HB := n1_; clear n0_ n1_; (try clear hb); (try clear hb2); (try clear hk); (try clear hi)))
            go_ret
            exact ⟨by first | rfl | (rw [HR_.out] <;> rfl) | (simp [errW_none, errW_some] <;> rfl) | (simp [*, errW_none, errW_some] <;> rfl), by repeat (first | (with_reducible first | exact HB.out | apply below_alloc | apply pw_below_drewN | apply below_drew1) | exact HB.out)⟩
          · rw [if_neg c51] at H
            have c51b0 : ((t237.length : Int) == 0) = false := beq_eq_false_iff_ne.mpr c51
            have c51b1 : ((t237.length : Int) != 0) = true := bne_iff_ne.mpr c51
            have c51b2 : ¬ (t237 = []) := fun h_ => c51 (by rw [h_]; rfl)
            exact absurd H (by simp)

/-- The statement of remontoirlaw12_SynthSupplies over plain data. -/
def remontoirlaw12_SynthSupplies.Pure : Prop := ∀ (l0 : List (S54)) (a1 : Int) (a2 : Int), (l0.length ≤ 9223372036854775807 ∧ ∀ x ∈ l0, ((Lit.int .i64 x.f0).wf = true ∧ (Lit.int .i64 x.f1).wf = true)) → (Lit.int .u8 a1).wf = true → (Lit.int .i64 a2).wf = true → ∃ k, remontoirlaw12_SynthSupplies.f k l0 a1 a2 = some true

end Go.Proofs.Ytkfkghnmbemdiaa.FSynth
