-- Written by the session (wip/tools) for this claim: functions of the program as Lean functions, and their contracts.
import Derived.Test.YtdfokaldjfpkhaaFHeapx0
import Derived.Test.YtdfokaldjfpkhaaFHeapx4
import Derived.Test.YtdfokaldjfpkhaaFHeapx6
import Derived.Test.YtdfokaldjfpkhaaFHeapx8
import Derived.Test.YtdfokaldjfpkhaaFHeapx9
namespace Go.Proofs.Ytdfokaldjfpkhaa.FHeap
open Go.RowKit Go.Proofs.YtdfokaldjfpkhaaW.PrintWords Go.Proofs.YtdfokaldjfpkhaaW.PrintLast Go.Proofs.YtdfokaldjfpkhaaW.PrintMore
attribute [local go_sem] max2_int min2_int max_two min_two max_three min_three max_four min_four   -- for this text's walks alone
set_option linter.unusedVariables false
set_option linter.unusedSimpArgs false

/-! ### remontoirlaw02_HeapRows: function 8 -/
mutual
def remontoirlaw02_HeapRows.l0 : Nat → List (S34) → List Bool → List (S34) → List (S49) → Int → Option (Bool)
  | 0, _, _, _, _, _ => none
  | k + 1, x0, x1, x5, x6, x7 => if x7 < (x0.length : Int) then (if x7 < (x1.length : Int) then (remontoirlaw02_HeapRows.j1 k x0 x1 x5 x6 x7 (decide (x7 < 60))) else (remontoirlaw02_HeapRows.j1 k x0 x1 x5 x6 x7 false)) else (remontoirlaw02_HeapRows.j1 k x0 x1 x5 x6 x7 false)
def remontoirlaw02_HeapRows.j1 : Nat → List (S34) → List Bool → List (S34) → List (S49) → Int → Bool → Option (Bool)
  | 0, _, _, _, _, _, _ => none
  | k + 1, x0, x1, x5, x6, x7, x24 => if x24 = true then (if 0 ≤ x7 then (if x7 < (x1.length : Int) then (if rdOf false x1 x7 = true then ((heap_Pop.f k x5).bind fun bt353 => (if (x6.length : Int) = 0 then (if bt353.2.2.2 = 4 then (remontoirlaw02_HeapRows.l0 k x0 x1 x5 x6 (wrap64 (x7 + 1))) else (some false)) else (if bt353.2.2.2 = 0 then (if 0 < (x6.length : Int) then (if bt353.1 = ((rd_T49 x6 0).f0) then (if bt353.2.1 = ((rd_T49 x6 0).f1) then (if (bt353.2.2.1.length : Int) = (wrap64 ((x6.length : Int) - 1)) then (if 1 ≤ (x6.length : Int) then (remontoirlaw02_HeapRows.l0 k x0 x1 bt353.2.2.1 (x6.drop (1 : Int).toNat) (wrap64 (x7 + 1))) else (none)) else (some false)) else (some false)) else (some false)) else (none)) else (some false)))) else (if x7 < (x0.length : Int) then ((heap_Push.f k x5 ((rd_T34 x0 x7).f0) ((rd_T34 x0 x7).f1)).bind fun t331 => ((some (([] : List (S49)) : List (S49))).bind fun y334 => (if y334.length + x6.length < 8796093022208 then ((some (y334 ++ x6 : List (S49))).bind fun y337 => (if x7 ≤ (wrap64 (x7 + 1)) then (if (wrap64 (x7 + 1)) ≤ (x0.length : Int) then ((remontoirlaw02_as.f k ((x0.take ((wrap64 (x7 + 1)) : Int).toNat).drop (x7 : Int).toNat)).bind fun t344 => (if y337.length + t344.length < 8796093022208 then ((remontoirref02_Sort.f k (y337 ++ t344)).bind fun t350 => (remontoirlaw02_HeapRows.l0 k x0 x1 t331 t350 (wrap64 (x7 + 1)))) else (none))) else (none)) else (none))) else (none)))) else (none))) else (none)) else (none)) else ((remontoirlaw02_knows.f k).bind fun t328 => (some t328))
end
def remontoirlaw02_HeapRows.f (k : Nat) (l0 : List (S34)) (l1 : List Bool) : Option (Bool) := remontoirlaw02_HeapRows.l0 k l0 l1 ([] : List (S34)) ([] : List (S49)) 0
theorem remontoirlaw02_HeapRows.mono_l : ∀ k, (∀ y0 y1 y2 y3 y4, LeO (remontoirlaw02_HeapRows.l0 k y0 y1 y2 y3 y4) (remontoirlaw02_HeapRows.l0 (k + 1) y0 y1 y2 y3 y4)) ∧ (∀ y0 y1 y2 y3 y4 y5, LeO (remontoirlaw02_HeapRows.j1 k y0 y1 y2 y3 y4 y5) (remontoirlaw02_HeapRows.j1 (k + 1) y0 y1 y2 y3 y4 y5))
  | 0 => ⟨fun _ _ _ _ _ r h => by simp [remontoirlaw02_HeapRows.l0] at h, fun _ _ _ _ _ _ r h => by simp [remontoirlaw02_HeapRows.j1] at h⟩
  | k + 1 => by
    obtain ⟨ih0, ih1⟩ := remontoirlaw02_HeapRows.mono_l k
    refine ⟨?_, ?_⟩
    · intro y0 y1 y2 y3 y4
      unfold remontoirlaw02_HeapRows.l0
      repeat' first
      | (with_reducible exact ih0 _ _ _ _ _)
      | (with_reducible exact ih1 _ _ _ _ _ _)
      | (with_reducible exact heap_Pop.mono _ _)
      | (with_reducible exact heap_Push.mono _ _ _ _)
      | (with_reducible exact remontoirlaw02_as.mono _ _)
      | (with_reducible exact remontoirlaw02_knows.mono _)
      | (with_reducible exact remontoirref02_Sort.mono _ _)
      | (with_reducible exact LeO.refl _)
      | (with_reducible exact LeO.none _)
      | (with_reducible refine LeO.ite ?_ ?_)
      | (with_reducible refine LeO.bind ?_ (fun _ => ?_))
      | exact ih0 _ _ _ _ _
      | exact ih1 _ _ _ _ _ _
      | exact heap_Pop.mono _ _
      | exact heap_Push.mono _ _ _ _
      | exact remontoirlaw02_as.mono _ _
      | exact remontoirlaw02_knows.mono _
      | exact remontoirref02_Sort.mono _ _
      | exact LeO.none _
      | refine LeO.ite ?_ ?_
      | refine LeO.bind ?_ (fun _ => ?_)
    · intro y0 y1 y2 y3 y4 y5
      unfold remontoirlaw02_HeapRows.j1
      repeat' first
      | (with_reducible exact ih0 _ _ _ _ _)
      | (with_reducible exact ih1 _ _ _ _ _ _)
      | (with_reducible exact heap_Pop.mono _ _)
      | (with_reducible exact heap_Push.mono _ _ _ _)
      | (with_reducible exact remontoirlaw02_as.mono _ _)
      | (with_reducible exact remontoirlaw02_knows.mono _)
      | (with_reducible exact remontoirref02_Sort.mono _ _)
      | (with_reducible exact LeO.refl _)
      | (with_reducible exact LeO.none _)
      | (with_reducible refine LeO.ite ?_ ?_)
      | (with_reducible refine LeO.bind ?_ (fun _ => ?_))
      | exact ih0 _ _ _ _ _
      | exact ih1 _ _ _ _ _ _
      | exact heap_Pop.mono _ _
      | exact heap_Push.mono _ _ _ _
      | exact remontoirlaw02_as.mono _ _
      | exact remontoirlaw02_knows.mono _
      | exact remontoirref02_Sort.mono _ _
      | exact LeO.none _
      | refine LeO.ite ?_ ?_
      | refine LeO.bind ?_ (fun _ => ?_)
theorem remontoirlaw02_HeapRows.mono : ∀ a0 a1 k, LeO (remontoirlaw02_HeapRows.f k a0 a1) (remontoirlaw02_HeapRows.f (k + 1) a0 a1) := by
  intro a0 a1 k
  obtain ⟨ih0, ih1⟩ := remontoirlaw02_HeapRows.mono_l k
  unfold remontoirlaw02_HeapRows.f
  repeat' first
      | (with_reducible exact ih0 _ _ _ _ _)
      | (with_reducible exact ih1 _ _ _ _ _ _)
      | (with_reducible exact heap_Pop.mono _ _)
      | (with_reducible exact heap_Push.mono _ _ _ _)
      | (with_reducible exact remontoirlaw02_as.mono _ _)
      | (with_reducible exact remontoirlaw02_knows.mono _)
      | (with_reducible exact remontoirref02_Sort.mono _ _)
      | (with_reducible exact LeO.refl _)
      | (with_reducible exact LeO.none _)
      | (with_reducible refine LeO.ite ?_ ?_)
      | (with_reducible refine LeO.bind ?_ (fun _ => ?_))
      | exact ih0 _ _ _ _ _
      | exact ih1 _ _ _ _ _ _
      | exact heap_Pop.mono _ _
      | exact heap_Push.mono _ _ _ _
      | exact remontoirlaw02_as.mono _ _
      | exact remontoirlaw02_knows.mono _
      | exact remontoirref02_Sort.mono _ _
      | exact LeO.none _
      | refine LeO.ite ?_ ?_
      | refine LeO.bind ?_ (fun _ => ?_)
def remontoirlaw02_HeapRows.T8 : Bool × List (List Nat × List Nat) := (true, [([], []), ([], []), ([0, 1], [0, 1]), ([], []), ([], []), ([], []), ([5], [5]), ([3, 4, 6], [3, 4, 6]), ([7, 2], [7]), ([2, 8, 8], [2, 8]), ([9, 9], [9]), ([10, 10, 0, 1, 2, 3, 4, 5, 6, 7, 8, 9, 10], [1, 10])])
def remontoirlaw02_HeapRows.B8 : List Nat := [0, 0, 3, 0, 0, 0, 32, 120, 255, 511, 1023, 2047]
theorem remontoirlaw02_HeapRows.tab8 : rtab .any (opsOf Try.f8 8) = remontoirlaw02_HeapRows.T8 := by kernel_rfl
theorem remontoirlaw02_HeapRows.bits8 : waitsOk remontoirlaw02_HeapRows.T8.2 remontoirlaw02_HeapRows.B8 = true := by kernel_rfl
def remontoirlaw02_HeapRows.T13 : Bool × List (List Nat × List Nat) := (true, [([], []), ([0], [0]), ([1], [1]), ([2], [2]), ([3, 2], [2, 3]), ([2], [2]), ([5, 2], [2, 5]), ([6, 2], [2, 6]), ([7, 2], [2, 7]), ([4, 8, 2], [2, 4, 8]), ([2, 9], [2, 9]), ([10, 2], [10]), ([11], [11]), ([12, 11], [11, 12]), ([11], [11]), ([14, 11], [11, 14]), ([15, 11], [11, 15]), ([16, 11], [11, 16]), ([13, 17, 11], [11, 13, 17]), ([11, 18], [11, 18]), ([19, 11], [19]), ([20], [20]), ([21, 20], [20, 21]), ([20], [20]), ([23, 20], [20, 23]), ([24, 20], [20, 24]), ([22, 25, 20], [20, 22, 25]), ([20, 26], [20, 26])])
def remontoirlaw02_HeapRows.B13 : List Nat := [0, 1, 3, 7, 15, 7, 39, 103, 231, 511, 1023, 2047, 4095, 8191, 4095, 20479, 53247, 118783, 262143, 524287, 1048575, 2097151, 4194303, 2097151, 10485759, 27262975, 67108863, 134217727]
theorem remontoirlaw02_HeapRows.tab13 : rtab .any (opsOf Try.f8 13) = remontoirlaw02_HeapRows.T13 := by kernel_rfl
theorem remontoirlaw02_HeapRows.bits13 : waitsOk remontoirlaw02_HeapRows.T13.2 remontoirlaw02_HeapRows.B13 = true := by kernel_rfl
set_option maxHeartbeats 8000000 in
set_option maxRecDepth 100000 in
theorem remontoirlaw02_HeapRows.calls (k : Nat) (A0 : Option Addr) (c0 : Nat) (l0 : List (S34)) (A1 : Option Addr) (c1 : Nat) (l1 : List Bool) (w : World) (hr0 : Kd.C k34 w A0 l0.length l0) (hc0 : l0.length ≤ c0) (hr1 : Kd.C Kd.bool w A1 l1.length l1) (hc1 : l1.length ≤ c1) (h : remontoirlaw02_HeapRows.f k l0 l1 = some true) :
    Calls Try.prog 8 #[.slice A0 l0.length c0, .slice A1 l1.length c1] w fun e w' => e = .returned (.bool true) ∧ Below w.heap.size w w' := by
  have hu34 := Try.underlying34
  have HR0 := Aside0.mk hr0
  have HC0 := Aside0.mk hc0
  clear hr0 hc0
  have HR1 := Aside0.mk hr1
  have HC1 := Aside0.mk hc1
  clear hr1 hc1
  have HB := Aside0.mk (Below.refl w.heap.size w)
  have H : (remontoirlaw02_HeapRows.l0 k l0 l1 ([] : List (S34)) ([] : List (S49)) 0) = some true := h
  clear h
  have H' := Aside0.mk H
  clear H
  go_enter Try.func8, Try.ntmps8
  go_wp2
  go_loopg [5, 6, 7] k (fun kq v5 v6 v7 w' => ∃ (x5_1 : List (S34)) (x6_1 : List (S49)) (x7_1 : Int), v7 = .int .i64 x7_1 ∧ Aside0 (remontoirlaw02_HeapRows.l0 kq l0 l1 x5_1 x6_1 x7_1 = some true) ∧ Aside0 (kq ≤ k) ∧ Aside0 (Kd.R k34 34 w' w.heap.size (fun _ => True) v5 x5_1) ∧ Aside0 (Kd.Q k49 49 w' w.heap.size (fun _ => True) v6 x6_1) ∧ Aside0 (Below w.heap.size w w'))
  case atStart => exact ⟨(([] : List (S34))), (([] : List (S49))), (0), (by first | rfl | (simp; done) | (simp [*]; done)), H', ⟨Nat.le_refl _⟩, ⟨by first | exact Kd.R_nil _ _ _ _ _ | exact Kd.N_nil _ _ _ _ _ | exact Kd.V_nil _ _ _ _ _ | exact Kd.Q_nil _ _ _ _ _ | exact Kd.S_nil _ _ _ _ _⟩, ⟨Kd.Q_of_R (by first | exact Kd.R_nil _ _ _ _ _ | exact Kd.N_nil _ _ _ _ _ | exact Kd.V_nil _ _ _ _ _ | exact Kd.Q_nil _ _ _ _ _ | exact Kd.S_nil _ _ _ _ _)⟩, ⟨by repeat (first | (with_reducible first | exact HB.out | apply below_alloc | apply pw_below_drewN | apply below_drew1) | exact HB.out)⟩⟩
  case round =>
    clear H'
    try clear c1
    try clear p2
    obtain ⟨x5_1, x6_1, x7_1, rfl, HA, HK1, HO_5, HO_6, HB⟩ := hrel
    cases gk with
    | zero => exact absurd HA.out (by simp [remontoirlaw02_HeapRows.l0])
    | succ k1 =>
      have H := HA.out
      clear HA
      simp only [remontoirlaw02_HeapRows.l0] at H
      have HC3 := Aside0.mk H
      clear H
      go_upto_region 4 with (fail)
      go_cut [24] (fun v24 wc => ∃ (kq : Nat) (x24_2 : Bool), v24 = .bool x24_2 ∧ Aside0 (remontoirlaw02_HeapRows.j1 kq l0 l1 x5_1 x6_1 x7_1 x24_2 = some true) ∧ Aside0 (kq ≤ k1) ∧ Aside0 (Kd.R k34 34 wc w.heap.size (fun _ => True) u5 x5_1) ∧ Aside0 (Kd.Q k49 49 wc w.heap.size (fun _ => True) u6 x6_1) ∧ Aside0 (Below w.heap.size w wc))
      case first =>
        have H := HC3.out
        clear HC3
        by_cases c4 : x7_1 < (l0.length : Int)
        · rw [if_pos c4] at H
          have c4b0 : decide (x7_1 < (l0.length : Int)) = true := decide_eq_true c4
          clear c4
          (first | rw [c4b0] | (simp only [i64_w, i32_w]; rw [c4b0]) | rw [c4b1] | (simp only [i64_w, i32_w]; rw [c4b1]) | skip)
          by_cases c5 : x7_1 < (l1.length : Int)
          · rw [if_pos c5] at H
            have c5b0 : decide (x7_1 < (l1.length : Int)) = true := decide_eq_true c5
            clear c5
            have H' := Aside0.mk H
            clear H
            go_wp2
            go_meet
            case rel => exact ⟨_, (decide (x7_1 < 60)), (by first | rfl | (simp; done) | (simp [*]; done)), H', ⟨by have := HK1.out; first | omega | exact Nat.le_refl _⟩, ⟨by (with_reducible repeat (first | apply Kd.R_alloc | apply Kd.R_drewN | apply Kd.R_drew)); exact HO_5.out⟩, ⟨by (with_reducible repeat (first | apply Kd.Q_alloc | apply Kd.Q_drewN | apply Kd.Q_drew)); exact HO_6.out⟩, ⟨by repeat (first | (with_reducible first | exact HB.out | apply below_alloc | apply pw_below_drewN | apply below_drew1) | exact HB.out)⟩⟩
          · rw [if_neg c5] at H
            have c5b0 : decide (x7_1 < (l1.length : Int)) = false := decide_eq_false c5
            clear c5
            have H' := Aside0.mk H
            clear H
            go_wp2
            go_meet
            case rel => exact ⟨_, (false), (by first | rfl | (simp; done) | (simp [*]; done)), H', ⟨by have := HK1.out; first | omega | exact Nat.le_refl _⟩, ⟨by (with_reducible repeat (first | apply Kd.R_alloc | apply Kd.R_drewN | apply Kd.R_drew)); exact HO_5.out⟩, ⟨by (with_reducible repeat (first | apply Kd.Q_alloc | apply Kd.Q_drewN | apply Kd.Q_drew)); exact HO_6.out⟩, ⟨by repeat (first | (with_reducible first | exact HB.out | apply below_alloc | apply pw_below_drewN | apply below_drew1) | exact HB.out)⟩⟩
        · rw [if_neg c4] at H
          have c4b0 : decide (x7_1 < (l0.length : Int)) = false := decide_eq_false c4
          clear c4
          (first | rw [c4b0] | (simp only [i64_w, i32_w]; rw [c4b0]) | rw [c4b1] | (simp only [i64_w, i32_w]; rw [c4b1]) | skip)
          have H' := Aside0.mk H
          clear H
          go_wp2
          go_meet
          case rel => exact ⟨_, (false), (by first | rfl | (simp; done) | (simp [*]; done)), H', ⟨by have := HK1.out; first | omega | exact Nat.le_refl _⟩, ⟨by (with_reducible repeat (first | apply Kd.R_alloc | apply Kd.R_drewN | apply Kd.R_drew)); exact HO_5.out⟩, ⟨by (with_reducible repeat (first | apply Kd.Q_alloc | apply Kd.Q_drewN | apply Kd.Q_drew)); exact HO_6.out⟩, ⟨by repeat (first | (with_reducible first | exact HB.out | apply below_alloc | apply pw_below_drewN | apply below_drew1) | exact HB.out)⟩⟩
      case rest =>
        clear HC3
        try clear c1
        try clear p2
        try clear c4
        try clear c4b0
        try clear c5
        try clear c5b0
        try clear p2
        obtain ⟨kq, x24_2, rfl, HA, HJ2, HO_5, HO_6, HB⟩ := hcut
        cases kq with
        | zero => exact absurd HA.out (by simp [remontoirlaw02_HeapRows.j1])
        | succ kj2 =>
          have H := HA.out
          clear HA
          simp only [remontoirlaw02_HeapRows.j1] at H
          by_cases c6 : x24_2 = true
          · subst c6
            have H1 : (if 0 ≤ x7_1 then (if x7_1 < (l1.length : Int) then (if rdOf false l1 x7_1 = true then ((heap_Pop.f kj2 x5_1).bind fun bt353 => (if (x6_1.length : Int) = 0 then (if bt353.2.2.2 = 4 then (remontoirlaw02_HeapRows.l0 kj2 l0 l1 x5_1 x6_1 (wrap64 (x7_1 + 1))) else (some false)) else (if bt353.2.2.2 = 0 then (if 0 < (x6_1.length : Int) then (if bt353.1 = ((rd_T49 x6_1 0).f0) then (if bt353.2.1 = ((rd_T49 x6_1 0).f1) then (if (bt353.2.2.1.length : Int) = (wrap64 ((x6_1.length : Int) - 1)) then (if 1 ≤ (x6_1.length : Int) then (remontoirlaw02_HeapRows.l0 kj2 l0 l1 bt353.2.2.1 (x6_1.drop (1 : Int).toNat) (wrap64 (x7_1 + 1))) else (none)) else (some false)) else (some false)) else (some false)) else (none)) else (some false)))) else (if x7_1 < (l0.length : Int) then ((heap_Push.f kj2 x5_1 ((rd_T34 l0 x7_1).f0) ((rd_T34 l0 x7_1).f1)).bind fun t331 => ((some (([] : List (S49)) : List (S49))).bind fun y334 => (if y334.length + x6_1.length < 8796093022208 then ((some (y334 ++ x6_1 : List (S49))).bind fun y337 => (if x7_1 ≤ (wrap64 (x7_1 + 1)) then (if (wrap64 (x7_1 + 1)) ≤ (l0.length : Int) then ((remontoirlaw02_as.f kj2 ((l0.take ((wrap64 (x7_1 + 1)) : Int).toNat).drop (x7_1 : Int).toNat)).bind fun t344 => (if y337.length + t344.length < 8796093022208 then ((remontoirref02_Sort.f kj2 (y337 ++ t344)).bind fun t350 => (remontoirlaw02_HeapRows.l0 kj2 l0 l1 t331 t350 (wrap64 (x7_1 + 1)))) else (none))) else (none)) else (none))) else (none)))) else (none))) else (none)) else (none)) = some true := by rw [if_pos rfl] at H; exact H
            clear H
            have H := H1
            clear H1
            by_cases c7 : 0 ≤ x7_1
            · rw [if_pos c7] at H
              have c7b0 : decide (0 ≤ x7_1) = true := decide_eq_true c7
              clear c7
              by_cases c8 : x7_1 < (l1.length : Int)
              · rw [if_pos c8] at H
                have c8b0 : decide (x7_1 < (l1.length : Int)) = true := decide_eq_true c8
                clear c8
                obtain ⟨bq9, hbq9⟩ : ∃ b_ : Bool, b_ = (rdOf false l1 x7_1) := ⟨_, rfl⟩
                replace H : (if bq9 = true then ((heap_Pop.f kj2 x5_1).bind fun bt353 => (if (x6_1.length : Int) = 0 then (if bt353.2.2.2 = 4 then (remontoirlaw02_HeapRows.l0 kj2 l0 l1 x5_1 x6_1 (wrap64 (x7_1 + 1))) else (some false)) else (if bt353.2.2.2 = 0 then (if 0 < (x6_1.length : Int) then (if bt353.1 = ((rd_T49 x6_1 0).f0) then (if bt353.2.1 = ((rd_T49 x6_1 0).f1) then (if (bt353.2.2.1.length : Int) = (wrap64 ((x6_1.length : Int) - 1)) then (if 1 ≤ (x6_1.length : Int) then (remontoirlaw02_HeapRows.l0 kj2 l0 l1 bt353.2.2.1 (x6_1.drop (1 : Int).toNat) (wrap64 (x7_1 + 1))) else (none)) else (some false)) else (some false)) else (some false)) else (none)) else (some false)))) else (if x7_1 < (l0.length : Int) then ((heap_Push.f kj2 x5_1 ((rd_T34 l0 x7_1).f0) ((rd_T34 l0 x7_1).f1)).bind fun t331 => ((some (([] : List (S49)) : List (S49))).bind fun y334 => (if y334.length + x6_1.length < 8796093022208 then ((some (y334 ++ x6_1 : List (S49))).bind fun y337 => (if x7_1 ≤ (wrap64 (x7_1 + 1)) then (if (wrap64 (x7_1 + 1)) ≤ (l0.length : Int) then ((remontoirlaw02_as.f kj2 ((l0.take ((wrap64 (x7_1 + 1)) : Int).toNat).drop (x7_1 : Int).toNat)).bind fun t344 => (if y337.length + t344.length < 8796093022208 then ((remontoirref02_Sort.f kj2 (y337 ++ t344)).bind fun t350 => (remontoirlaw02_HeapRows.l0 kj2 l0 l1 t331 t350 (wrap64 (x7_1 + 1)))) else (none))) else (none)) else (none))) else (none)))) else (none))) = some true := by rw [← hbq9] at H; exact H
                have Nbq9 := Aside0.mk hbq9
                clear hbq9
                by_cases c10 : bq9 = true
                · subst c10
                  have H1 : ((heap_Pop.f kj2 x5_1).bind fun bt353 => (if (x6_1.length : Int) = 0 then (if bt353.2.2.2 = 4 then (remontoirlaw02_HeapRows.l0 kj2 l0 l1 x5_1 x6_1 (wrap64 (x7_1 + 1))) else (some false)) else (if bt353.2.2.2 = 0 then (if 0 < (x6_1.length : Int) then (if bt353.1 = ((rd_T49 x6_1 0).f0) then (if bt353.2.1 = ((rd_T49 x6_1 0).f1) then (if (bt353.2.2.1.length : Int) = (wrap64 ((x6_1.length : Int) - 1)) then (if 1 ≤ (x6_1.length : Int) then (remontoirlaw02_HeapRows.l0 kj2 l0 l1 bt353.2.2.1 (x6_1.drop (1 : Int).toNat) (wrap64 (x7_1 + 1))) else (none)) else (some false)) else (some false)) else (some false)) else (none)) else (some false)))) = some true := by rw [if_pos rfl] at H; exact H
                  clear H
                  have H := H1
                  clear H1
                  replace H := Option.bind_eq_some_iff.mp H
                  obtain ⟨⟨t353, t354, t355, t358⟩, A110, H⟩ := H
                  replace H : (if (x6_1.length : Int) = 0 then (if t358 = 4 then (remontoirlaw02_HeapRows.l0 kj2 l0 l1 x5_1 x6_1 (wrap64 (x7_1 + 1))) else (some false)) else (if t358 = 0 then (if 0 < (x6_1.length : Int) then (if t353 = ((rd_T49 x6_1 0).f0) then (if t354 = ((rd_T49 x6_1 0).f1) then (if (t355.length : Int) = (wrap64 ((x6_1.length : Int) - 1)) then (if 1 ≤ (x6_1.length : Int) then (remontoirlaw02_HeapRows.l0 kj2 l0 l1 t355 (x6_1.drop (1 : Int).toNat) (wrap64 (x7_1 + 1))) else (none)) else (some false)) else (some false)) else (some false)) else (none)) else (some false))) = some true := H
                  have A11 := Aside0.mk A110
                  clear A110
                  by_cases c12 : (x6_1.length : Int) = 0
                  · rw [if_pos c12] at H
                    have c12b0 : ((x6_1.length : Int) == 0) = true := beq_iff_eq.mpr c12
                    have c12b1 : ((x6_1.length : Int) != 0) = false := bne_eq_false_iff_eq.mpr c12
                    clear c12
                    by_cases c13 : t358 = 4
                    · rw [if_pos c13] at H
                      have c13b0 : (t358 == 4) = true := beq_iff_eq.mpr c13
                      have c13b1 : (t358 != 4) = false := bne_eq_false_iff_eq.mpr c13
                      clear c13
                      have H' := Aside0.mk H
                      clear H
                      have p329 : 0 ≤ (x7_1 : Int) := of_decide_eq_true (by first | (with_reducible assumption) | assumption)
                      have q329 : x7_1 < (l1.length : Int) := of_decide_eq_true (by first | (with_reducible assumption) | assumption)
                      obtain ⟨ad329, e329, hx329_0⟩ := Kd.at_bool HR1.out x7_1 p329 q329
                      (try rw [← Nbq9.out] at hx329_0)
                      cases e329
                      replace hx329_0 := (HB.out.cell (World.block_lt_of_cell? w _ hx329_0)).trans hx329_0
                      replace p329 := eq_true p329
                      replace q329 := eq_true q329
                      obtain ⟨Ao14, co14, eo14⟩ := Kd.R_slice HO_5.out
                      subst eo14
                      go_wp2_with (first | ((with_reducible refine gate_callee (f := 32) rfl ?_); refine goesL_ (some 51) rfl rfl Try.func32 (by kernel_rfl) rfl #[.slice Ao14 x5_1.length co14] rfl (by (try simp only [List.map_toArray, List.map_cons, List.map_nil]); first | done | rfl | (simp only [List.length_drop, List.length_take]; rfl)) ?_; (with_reducible refine (heap_Pop.calls kj2 _ _ x5_1 t353 t354 t355 t358 _ ?side1 ?side2 A11.out).mono ?_); (case side1 => repeat (first | exact (Kd.R_reads' HO_5.out).2.2 | (with_reducible refine Kd.C_alloc ?_ _) | (with_reducible refine Kd.C_drewN ?_ _) | (with_reducible refine Kd.C_drew ?_))); (case side2 => exact (Kd.R_reads' HO_5.out).2.1); rintro e w15 ⟨v356, rfl, ho0, hb⟩; refine ⟨_, rfl, ?_⟩; have n0_ := Aside0.mk (Kd.R_elder' (by (with_reducible repeat (first | apply Kd.R_alloc | apply Kd.R_drewN | apply Kd.R_drew)); exact HO_5.out) (Kd.R_base ho0) hb); have n1_ := Aside0.mk (Kd.Q_below (by (with_reducible repeat (first | apply Kd.Q_alloc | apply Kd.Q_drewN | apply Kd.Q_drew)); exact HO_6.out) hb); have n2_ := Aside0.mk (Kd.R_lower (Kd.R_new' ho0 (Kd.R_lt (by (with_reducible repeat (first | apply Kd.R_alloc | apply Kd.R_drewN | apply Kd.R_drew)); exact HO_5.out))) (below_size (by repeat (first | (with_reducible first | exact HB.out | apply below_alloc | apply pw_below_drewN | apply below_drew1) | exact HB.out)))); have n3_ := Aside0.mk (below_step (by repeat (first | (with_reducible first | exact HB.out | apply below_alloc | apply pw_below_drewN | apply below_drew1) | exact HB.out)) hb); clear HO_5; clear HO_6; clear HB; have HO_5 := n0_; have HO_6 := n1_; have HO357 := n2_; have HB := n3_; clear n0_ n1_ n2_ n3_; (try clear hb); (try clear hb2); (try clear hk); (try clear hi); (try clear ho0)) | ((with_reducible refine gate_dst (N := 8) rfl ?_); (try (refine gate_guard (by rfl) ?_; dsimp only)); refine box_event ?hg (N := 8) ?hd (cs := #[.int .i64 0, .int .i64 0]) (t := 34) ?hr ?_; (case hd => rfl); (case hg => rfl); (case hr => first | (go_simp; done) | (go_simp; rfl)); intro gb359 hg w16 hbox hb; have n0_ := Aside0.mk (Kd.R_below (Kd.R_elderB (by (with_reducible repeat (first | apply Kd.R_alloc | apply Kd.R_drewN | apply Kd.R_drew)); exact HO_5.out) gb359 (Nat.le_of_eq hg.symm)) hb); have n1_ := Aside0.mk (Kd.Q_below (by (with_reducible repeat (first | apply Kd.Q_alloc | apply Kd.Q_drewN | apply Kd.Q_drew)); exact HO_6.out) hb); have n2_ := Aside0.mk (Kd.R_below (Kd.R_elderB (by (with_reducible repeat (first | apply Kd.R_alloc | apply Kd.R_drewN | apply Kd.R_drew)); exact HO357.out) gb359 (Nat.le_of_eq hg.symm)) hb); have n3_ := Aside0.mk (below_step (by repeat (first | (with_reducible first | exact HB.out | apply below_alloc | apply pw_below_drewN | apply below_drew1) | exact HB.out)) hb); have n4_ := Aside0.mk (hbox); have n5_ := Aside0.mk ((by rw [hg]; exact (below_size (by repeat (first | (with_reducible first | exact HB.out | apply below_alloc | apply pw_below_drewN | apply below_drew1) | exact HB.out))) : w.heap.size ≤ gb359)); have n6_ := Aside0.mk ((by rw [hg]; exact (below_size (by repeat (first | (with_reducible first | exact HB.out | apply below_alloc | apply pw_below_drewN | apply below_drew1) | exact HB.out))) : w.heap.size ≤ gb359)); clear HO_5; clear HO_6; clear HO357; clear HB; have HO_5 := n0_; have HO_6 := n1_; have HO357 := n2_; have HB := n3_; have BK359 := n4_; have GW359 := n5_; have GE359 := n6_; clear n0_ n1_ n2_ n3_ n4_ n5_ n6_; clear hb hbox hg; have hcz17_0 : w16.cell? ⟨gb359, 0, none⟩ = some (.int .i64 0) := (blk_cell BK359.out 0).trans rfl; have hcz17_1 : w16.cell? ⟨gb359, 1, none⟩ = some (.int .i64 0) := (blk_cell BK359.out 1).trans rfl; have hfz17_0 := blk_frozen BK359.out 0; have hfz17_1 := blk_frozen BK359.out 1; obtain ⟨Ao18, co18, eo18, _⟩ := Kd.Q_slice HO_6.out; subst eo18))
                      go_roundg kj2
                      case measure => have := HK1.out; have := HJ2.out; omega
                      case rel => exact ⟨(x5_1), (x6_1), (wrap64 (x7_1 + 1)), (by first | rfl | (simp; done) | (simp [*]; done)), H', ⟨by have := HK1.out; have := HJ2.out; omega⟩, ⟨by (with_reducible repeat (first | apply Kd.R_alloc | apply Kd.R_drewN | apply Kd.R_drew)); exact Kd.R_mono (Kd.R_far (p := ⟨gb359, 1, none⟩) (Kd.R_far (p := ⟨gb359, 0, none⟩) (Kd.R_mono HO_5.out (fun k_ hk => (⟨hk, hk.2⟩ : _ ∧ k_ ≠ gb359))) (fun _ hk => hk.2) (.int .i64 t353)) (fun _ hk => hk.2) (.int .i64 t354)) (fun _ hk => trivial)⟩, ⟨by (with_reducible repeat (first | apply Kd.Q_alloc | apply Kd.Q_drewN | apply Kd.Q_drew)); exact Kd.Q_mono (Kd.Q_far (p := ⟨gb359, 1, none⟩) (Kd.Q_far (p := ⟨gb359, 0, none⟩) (Kd.Q_types HO_6.out BK359.out (by decide)) (fun _ hk => hk.2) (.int .i64 t353)) (fun _ hk => hk.2) (.int .i64 t354)) (fun _ hk => trivial)⟩, ⟨by repeat (first | (with_reducible first | exact HB.out | apply below_alloc | apply pw_below_drewN | apply below_drew1 | refine below_set ?_ GE359.out) | exact HB.out)⟩⟩
                    · rw [if_neg c13] at H
                      have c13b0 : (t358 == 4) = false := beq_eq_false_iff_ne.mpr c13
                      have c13b1 : (t358 != 4) = true := bne_iff_ne.mpr c13
                      exact absurd H (by simp)
                  · rw [if_neg c12] at H
                    have c12b0 : ((x6_1.length : Int) == 0) = false := beq_eq_false_iff_ne.mpr c12
                    have c12b1 : ((x6_1.length : Int) != 0) = true := bne_iff_ne.mpr c12
                    have c12b2 : ¬ (x6_1 = []) := fun h_ => c12 (by rw [h_]; rfl)
                    by_cases c19 : t358 = 0
                    · rw [if_pos c19] at H
                      have c19b0 : (t358 == 0) = true := beq_iff_eq.mpr c19
                      have c19b1 : (t358 != 0) = false := bne_eq_false_iff_eq.mpr c19
                      clear c19
                      by_cases c20 : 0 < (x6_1.length : Int)
                      · rw [if_pos c20] at H
                        have c20b0 : decide (0 < (x6_1.length : Int)) = true := decide_eq_true c20
                        have c20b1 : decide (0 < x6_1.length) = true := decide_eq_true (by omega)
                        clear c20
                        by_cases c21 : t353 = ((rd_T49 x6_1 0).f0)
                        · rw [if_pos c21] at H
                          have c21b0 : (t353 == ((rd_T49 x6_1 0).f0)) = true := beq_iff_eq.mpr c21
                          have c21b1 : (t353 != ((rd_T49 x6_1 0).f0)) = false := bne_eq_false_iff_eq.mpr c21
                          clear c21
                          by_cases c22 : t354 = ((rd_T49 x6_1 0).f1)
                          · rw [if_pos c22] at H
                            have c22b0 : (t354 == ((rd_T49 x6_1 0).f1)) = true := beq_iff_eq.mpr c22
                            have c22b1 : (t354 != ((rd_T49 x6_1 0).f1)) = false := bne_eq_false_iff_eq.mpr c22
                            clear c22
                            by_cases c23 : (t355.length : Int) = (wrap64 ((x6_1.length : Int) - 1))
                            · rw [if_pos c23] at H
                              have c23b0 : ((t355.length : Int) == (wrap64 ((x6_1.length : Int) - 1))) = true := beq_iff_eq.mpr c23
                              have c23b1 : ((t355.length : Int) != (wrap64 ((x6_1.length : Int) - 1))) = false := bne_eq_false_iff_eq.mpr c23
                              clear c23
                              by_cases c24 : 1 ≤ (x6_1.length : Int)
                              · rw [if_pos c24] at H
                                have c24b0 := eq_true c24
                                have c24b1 : decide (1 ≤ (x6_1.length : Int)) = true := decide_eq_true c24
                                clear c24
                                obtain ⟨y362, hy362⟩ : ∃ y_ : List (S49), y_ = (x6_1.drop (1 : Int).toNat) := ⟨_, rfl⟩
                                replace H : (remontoirlaw02_HeapRows.l0 kj2 l0 l1 t355 y362 (wrap64 (x7_1 + 1))) = some true := by first | (rw [hy362]; with_reducible exact H) | (have H2_ := (Option.bind_some _ _).symm.trans H; rw [hy362]; with_reducible exact H2_) | (have H2_ := (Option.bind_some _ _).symm.trans H; with_reducible exact H2_) | with_reducible exact H | (rw [hy362]; exact H) | exact H
                                have Ny362 := Aside0.mk hy362
                                clear hy362
                                have H' := Aside0.mk H
                                clear H
                                have p329 : 0 ≤ (x7_1 : Int) := of_decide_eq_true (by first | (with_reducible assumption) | assumption)
                                have q329 : x7_1 < (l1.length : Int) := of_decide_eq_true (by first | (with_reducible assumption) | assumption)
                                obtain ⟨ad329, e329, hx329_0⟩ := Kd.at_bool HR1.out x7_1 p329 q329
                                (try rw [← Nbq9.out] at hx329_0)
                                cases e329
                                replace hx329_0 := (HB.out.cell (World.block_lt_of_cell? w _ hx329_0)).trans hx329_0
                                replace p329 := eq_true p329
                                replace q329 := eq_true q329
                                obtain ⟨Ao25, co25, eo25⟩ := Kd.R_slice HO_5.out
                                subst eo25
                                try go_wp2_with (first | ((with_reducible refine gate_callee (f := 32) rfl ?_); refine goesL_ (some 51) rfl rfl Try.func32 (by kernel_rfl) rfl #[.slice Ao25 x5_1.length co25] rfl (by (try simp only [List.map_toArray, List.map_cons, List.map_nil]); first | done | rfl | (simp only [List.length_drop, List.length_take]; rfl)) ?_; (with_reducible refine (heap_Pop.calls kj2 _ _ x5_1 t353 t354 t355 t358 _ ?side1 ?side2 A11.out).mono ?_); (case side1 => repeat (first | exact (Kd.R_reads' HO_5.out).2.2 | (with_reducible refine Kd.C_alloc ?_ _) | (with_reducible refine Kd.C_drewN ?_ _) | (with_reducible refine Kd.C_drew ?_))); (case side2 => exact (Kd.R_reads' HO_5.out).2.1); rintro e w26 ⟨v356, rfl, ho0, hb⟩; refine ⟨_, rfl, ?_⟩; have n0_ := Aside0.mk (Kd.R_elder' (by (with_reducible repeat (first | apply Kd.R_alloc | apply Kd.R_drewN | apply Kd.R_drew)); exact HO_5.out) (Kd.R_base ho0) hb); have n1_ := Aside0.mk (Kd.Q_below (by (with_reducible repeat (first | apply Kd.Q_alloc | apply Kd.Q_drewN | apply Kd.Q_drew)); exact HO_6.out) hb); have n2_ := Aside0.mk (Kd.R_lower (Kd.R_new' ho0 (Kd.R_lt (by (with_reducible repeat (first | apply Kd.R_alloc | apply Kd.R_drewN | apply Kd.R_drew)); exact HO_5.out))) (below_size (by repeat (first | (with_reducible first | exact HB.out | apply below_alloc | apply pw_below_drewN | apply below_drew1) | exact HB.out)))); have n3_ := Aside0.mk (below_step (by repeat (first | (with_reducible first | exact HB.out | apply below_alloc | apply pw_below_drewN | apply below_drew1) | exact HB.out)) hb); clear HO_5; clear HO_6; clear HB; have HO_5 := n0_; have HO_6 := n1_; have HO357 := n2_; have HB := n3_; clear n0_ n1_ n2_ n3_; (try clear hb); (try clear hb2); (try clear hk); (try clear hi); (try clear ho0)) | ((with_reducible refine gate_dst (N := 8) rfl ?_); (try (refine gate_guard (by rfl) ?_; dsimp only)); refine box_event ?hg (N := 8) ?hd (cs := #[.int .i64 0, .int .i64 0]) (t := 34) ?hr ?_; (case hd => rfl); (case hg => rfl); (case hr => first | (go_simp; done) | (go_simp; rfl)); intro gb359 hg w27 hbox hb; have n0_ := Aside0.mk (Kd.R_below (Kd.R_elderB (by (with_reducible repeat (first | apply Kd.R_alloc | apply Kd.R_drewN | apply Kd.R_drew)); exact HO_5.out) gb359 (Nat.le_of_eq hg.symm)) hb); have n1_ := Aside0.mk (Kd.Q_below (by (with_reducible repeat (first | apply Kd.Q_alloc | apply Kd.Q_drewN | apply Kd.Q_drew)); exact HO_6.out) hb); have n2_ := Aside0.mk (Kd.R_below (Kd.R_elderB (by (with_reducible repeat (first | apply Kd.R_alloc | apply Kd.R_drewN | apply Kd.R_drew)); exact HO357.out) gb359 (Nat.le_of_eq hg.symm)) hb); have n3_ := Aside0.mk (below_step (by repeat (first | (with_reducible first | exact HB.out | apply below_alloc | apply pw_below_drewN | apply below_drew1) | exact HB.out)) hb); have n4_ := Aside0.mk (hbox); have n5_ := Aside0.mk ((by rw [hg]; exact (below_size (by repeat (first | (with_reducible first | exact HB.out | apply below_alloc | apply pw_below_drewN | apply below_drew1) | exact HB.out))) : w.heap.size ≤ gb359)); have n6_ := Aside0.mk ((by rw [hg]; exact (below_size (by repeat (first | (with_reducible first | exact HB.out | apply below_alloc | apply pw_below_drewN | apply below_drew1) | exact HB.out))) : w.heap.size ≤ gb359)); clear HO_5; clear HO_6; clear HO357; clear HB; have HO_5 := n0_; have HO_6 := n1_; have HO357 := n2_; have HB := n3_; have BK359 := n4_; have GW359 := n5_; have GE359 := n6_; clear n0_ n1_ n2_ n3_ n4_ n5_ n6_; clear hb hbox hg; have hcz28_0 : w27.cell? ⟨gb359, 0, none⟩ = some (.int .i64 0) := (blk_cell BK359.out 0).trans rfl; have hcz28_1 : w27.cell? ⟨gb359, 1, none⟩ = some (.int .i64 0) := (blk_cell BK359.out 1).trans rfl; have hfz28_0 := blk_frozen BK359.out 0; have hfz28_1 := blk_frozen BK359.out 1; obtain ⟨Ao29, co29, eo29, _⟩ := Kd.Q_slice HO_6.out; subst eo29))
                                have n0_ : Aside0 (Kd.R k34 34 ((w27.setCell ⟨gb359, 0, none⟩ (.int .i64 t353)).setCell ⟨gb359, 1, none⟩ (.int .i64 t354)) w.heap.size (fun k_ => some k_ ≠ (v356 : Value).ownBlock ∧ k_ ≠ gb359) (.slice Ao25 x5_1.length co25) x5_1) := ⟨by (with_reducible repeat (first | apply Kd.R_alloc | apply Kd.R_drewN | apply Kd.R_drew)); exact Kd.R_mono (Kd.R_far (p := ⟨gb359, 1, none⟩) (Kd.R_far (p := ⟨gb359, 0, none⟩) (Kd.R_mono HO_5.out (fun k_ hk => (⟨hk, hk.2⟩ : _ ∧ k_ ≠ gb359))) (fun _ hk => hk.2) (.int .i64 t353)) (fun _ hk => hk.2) (.int .i64 t354)) (fun _ hk => ⟨hk.1.1.2, hk.1.2⟩)⟩
                                have n1_ : Aside0 (Kd.Q k49 49 ((w27.setCell ⟨gb359, 0, none⟩ (.int .i64 t353)).setCell ⟨gb359, 1, none⟩ (.int .i64 t354)) w.heap.size (fun _ => True) (.slice Ao29 x6_1.length co29) x6_1) := ⟨by (with_reducible repeat (first | apply Kd.Q_alloc | apply Kd.Q_drewN | apply Kd.Q_drew)); exact Kd.Q_mono (Kd.Q_far (p := ⟨gb359, 1, none⟩) (Kd.Q_far (p := ⟨gb359, 0, none⟩) (Kd.Q_types HO_6.out BK359.out (by decide)) (fun _ hk => hk.2) (.int .i64 t353)) (fun _ hk => hk.2) (.int .i64 t354)) (fun _ hk => trivial)⟩
                                have n2_ : Aside0 (Kd.R k34 34 ((w27.setCell ⟨gb359, 0, none⟩ (.int .i64 t353)).setCell ⟨gb359, 1, none⟩ (.int .i64 t354)) w.heap.size (fun k_ => some k_ ≠ (.slice Ao25 x5_1.length co25 : Value).ownBlock ∧ k_ ≠ gb359) v356 t355) := ⟨by (with_reducible repeat (first | apply Kd.R_alloc | apply Kd.R_drewN | apply Kd.R_drew)); exact Kd.R_mono (Kd.R_far (p := ⟨gb359, 1, none⟩) (Kd.R_far (p := ⟨gb359, 0, none⟩) (Kd.R_mono HO357.out (fun k_ hk => (⟨hk, hk.2⟩ : _ ∧ k_ ≠ gb359))) (fun _ hk => hk.2) (.int .i64 t353)) (fun _ hk => hk.2) (.int .i64 t354)) (fun _ hk => ⟨hk.1.1.2, hk.1.2⟩)⟩
                                have n3_ : Aside0 (((w27.setCell ⟨gb359, 0, none⟩ (.int .i64 t353)).setCell ⟨gb359, 1, none⟩ (.int .i64 t354)).heap[gb359]? = some (.cells #[.int .i64 t353, .int .i64 t354] 34 (0, 0))) := ⟨by (with_reducible repeat (first | refine blk_drewN ?_ _ | refine blk_drew ?_ | refine blk_alloc ?_ _)); refine blk_put (cs := #[.int .i64 t353, .int .i64 0]) ?_ 1 _ rfl; (with_reducible repeat (first | refine blk_drewN ?_ _ | refine blk_drew ?_ | refine blk_alloc ?_ _)); refine blk_put (cs := #[.int .i64 0, .int .i64 0]) ?_ 0 _ rfl; (with_reducible repeat (first | refine blk_drewN ?_ _ | refine blk_drew ?_ | refine blk_alloc ?_ _)); exact BK359.out⟩
                                have n4_ : Aside0 (Below w.heap.size w ((w27.setCell ⟨gb359, 0, none⟩ (.int .i64 t353)).setCell ⟨gb359, 1, none⟩ (.int .i64 t354))) := ⟨by repeat (first | (with_reducible first | exact HB.out | apply below_alloc | apply pw_below_drewN | apply below_drew1 | refine below_set ?_ GE359.out) | exact HB.out)⟩
                                (try clear HO_5)
                                (try clear HO_6)
                                (try clear HO357)
                                (try clear BK359)
                                (try clear HB)
                                generalize ((w27.setCell ⟨gb359, 0, none⟩ (.int .i64 t353)).setCell ⟨gb359, 1, none⟩ (.int .i64 t354)) = w30 at n0_ n1_ n2_ n3_ n4_ ⊢
                                have HO_5 := n0_
                                have HO_6 := n1_
                                have HO357 := n2_
                                have BK359 := n3_
                                have HB := n4_
                                clear n0_ n1_ n2_ n3_ n4_
                                have n0_ := Aside0.mk (Kd.R_drew HO_5.out)
                                have n1_ := Aside0.mk (Kd.Q_drew HO_6.out)
                                have n2_ := Aside0.mk (Kd.R_drew HO357.out)
                                have n3_ := Aside0.mk (blk_drew BK359.out)
                                have n4_ := Aside0.mk (below_drew1 HB.out)
                                clear HO_5
                                clear HO_6
                                clear HO357
                                clear BK359
                                clear HB
                                have HO_5 := n0_
                                have HO_6 := n1_
                                have HO357 := n2_
                                have BK359 := n3_
                                have HB := n4_
                                clear n0_ n1_ n2_ n3_ n4_
                                have p360 : 0 ≤ (0 : Int) := (by omega)
                                have q360 : 0 < (x6_1.length : Int) := of_decide_eq_true (by first | (with_reducible assumption) | assumption)
                                obtain ⟨ad360, e360, hx360_0, hx360_1⟩ := at_T49 (Kd.Q_reads' HO_6.out).2.2 0 p360 q360
                                cases e360
                                have qi360 : (0 < x6_1.length) = True := eq_true (by omega)
                                (try rw [show ((0 : Int)).toNat = 0 from rfl] at hx360_0)
                                (try rw [show 0 * 2 = 0 from rfl] at hx360_0)
                                (try rw [Addr.add_zero'] at hx360_0)
                                (try rw [show ((0 : Int)).toNat = 0 from rfl] at hx360_1)
                                (try rw [show 0 * 2 = 0 from rfl] at hx360_1)
                                (try rw [Addr.add_zero'] at hx360_1)
                                replace p360 := eq_true p360
                                replace q360 := eq_true q360
                                have p361 : 0 ≤ (0 : Int) := (by omega)
                                have q361 : 0 < (x6_1.length : Int) := of_decide_eq_true (by first | (with_reducible assumption) | assumption)
                                obtain ⟨ad361, e361, hx361_0, hx361_1⟩ := at_T49 (Kd.Q_reads' HO_6.out).2.2 0 p361 q361
                                obtain rfl : ad360 = ad361 := (by injection e361)
                                have qi361 : (0 < x6_1.length) = True := eq_true (by omega)
                                (try rw [show ((0 : Int)).toNat = 0 from rfl] at hx361_0)
                                (try rw [show 0 * 2 = 0 from rfl] at hx361_0)
                                (try rw [Addr.add_zero'] at hx361_0)
                                (try rw [show ((0 : Int)).toNat = 0 from rfl] at hx361_1)
                                (try rw [show 0 * 2 = 0 from rfl] at hx361_1)
                                (try rw [Addr.add_zero'] at hx361_1)
                                replace p361 := eq_true p361
                                replace q361 := eq_true q361
                                obtain ⟨Ao32, co32, eo32⟩ := Kd.R_slice HO357.out
                                (first | subst eo32 | (injection eo32 with f1_ f2_ f3_; have f4_ := f1_.symm; have f5_ := f3_.symm; clear f1_ f2_ f3_; subst f4_; subst f5_))
                                refine start_ (n := 28) (S := fun w' => w'.cell? ⟨gb359, 0, none⟩ = some (.int .i64 t353) ∧ w'.cell? ⟨gb359, 1, none⟩ = some (.int .i64 t354) ∧ w'.cell? ad360 = some (.int .i64 ((rd_T49 x6_1 0).f0)) ∧ w'.cell? ⟨ad360.block, ad360.off + 1, none⟩ = some (.int .i64 ((rd_T49 x6_1 0).f1)) ∧ w'.cell? ad360 = some (.int .i64 ((rd_T49 x6_1 0).f0)) ∧ w'.cell? ⟨ad360.block, ad360.off + 1, none⟩ = some (.int .i64 ((rd_T49 x6_1 0).f1))) (ds := []) #[false, false, false, false, false, false, false, false, false, false, false, false, false, false, false, false, false, false, false, false, false, false, false, false, false, false, false, false] (by kernel_rfl) rfl rfl ⟨(blk_cell BK359.out 0).trans rfl, (blk_cell BK359.out 1).trans rfl, hx360_0, hx360_1, hx361_0, hx361_1⟩ (fun hHeld => ?_); refine with_tabW remontoirlaw02_HeapRows.tab13 remontoirlaw02_HeapRows.bits13 (fun HT_ HW_ => ?_)
                                generalize w30.drew = w31 at HO_5 HO_6 HO357 BK359 HB hx360_0 hx360_1 hx361_0 hx361_1 hHeld ⊢
                                refine pure_ (i := 0) (N := some 60) (v := ?_) (a' := ?_) #[true, false, false, false, false, false, false, false, false, false, false, false, false, false, false, false, false, false, false, false, false, false, false, false, false, false, false, false] rfl rfl (any_of HT_.out (by kernel_rfl)) (fun _ _ _ h => h) (Or.inl ⟨by rfl, ?_⟩) ?_ ?_
                                rotate_left
                                · intro w'
                                  go_simp
                                  with_reducible rfl
                                rotate_left
                                · simp only [Act.put, List.setIfInBounds_toArray, List.set_cons_zero, List.set_cons_succ, i64_w, i32_w]
                                  rfl
                                refine pure_ (i := 1) (N := some 61) (v := ?_) (a' := ?_) #[true, true, false, false, false, false, false, false, false, false, false, false, false, false, false, false, false, false, false, false, false, false, false, false, false, false, false, false] rfl rfl (any_of HT_.out (by kernel_rfl)) (fun _ _ _ h => h) (Or.inl ⟨by rfl, ?_⟩) ?_ ?_
                                rotate_left
                                · intro w'
                                  go_simp
                                  with_reducible rfl
                                rotate_left
                                · simp only [Act.put, List.setIfInBounds_toArray, List.set_cons_zero, List.set_cons_succ, i64_w, i32_w]
                                  rfl
                                refine pure_ (i := 2) (N := some 62) (v := ?_) (a' := ?_) #[true, true, true, false, false, false, false, false, false, false, false, false, false, false, false, false, false, false, false, false, false, false, false, false, false, false, false, false] rfl rfl (any_of HT_.out (by kernel_rfl)) (fun _ _ _ h => h) (Or.inl ⟨by rfl, ?_⟩) ?_ ?_
                                rotate_left
                                · intro w'
                                  go_simp
                                  with_reducible rfl
                                rotate_left
                                · simp only [Act.put, List.setIfInBounds_toArray, List.set_cons_zero, List.set_cons_succ, i64_w, i32_w]
                                  rfl
                                refine pure_ (i := 3) (N := some 63) (v := ?_) (a' := ?_) #[true, true, true, true, false, false, false, false, false, false, false, false, false, false, false, false, false, false, false, false, false, false, false, false, false, false, false, false] rfl rfl (any_of HT_.out (by kernel_rfl)) (fun _ _ _ h => h) (Or.inl ⟨by rfl, ?_⟩) ?_ ?_
                                rotate_left
                                · intro w'
                                  go_simp
                                  with_reducible rfl
                                rotate_left
                                · simp only [Act.put, List.setIfInBounds_toArray, List.set_cons_zero, List.set_cons_succ, i64_w, i32_w]
                                  rfl
                                refine pure_ (i := 5) (N := some 65) (v := ?_) (a' := ?_) #[true, true, true, true, false, true, false, false, false, false, false, false, false, false, false, false, false, false, false, false, false, false, false, false, false, false, false, false] rfl rfl (any_of HT_.out (by kernel_rfl)) (fun _ _ _ h => h) (Or.inl ⟨by rfl, ?_⟩) ?_ ?_
                                rotate_left
                                · intro w'
                                  go_simp
                                  with_reducible rfl
                                rotate_left
                                · simp only [Act.put, List.setIfInBounds_toArray, List.set_cons_zero, List.set_cons_succ, i64_w, i32_w]
                                  rfl
                                refine pure_ (i := 6) (N := some 66) (v := ?_) (a' := ?_) #[true, true, true, true, false, true, true, false, false, false, false, false, false, false, false, false, false, false, false, false, false, false, false, false, false, false, false, false] rfl rfl (any_of HT_.out (by kernel_rfl)) (fun _ _ _ h => h) (Or.inl ⟨by rfl, ?_⟩) ?_ ?_
                                rotate_left
                                · intro w'
                                  go_simp
                                  with_reducible rfl
                                rotate_left
                                · simp only [Act.put, List.setIfInBounds_toArray, List.set_cons_zero, List.set_cons_succ, i64_w, i32_w]
                                  rfl
                                refine pure_ (i := 7) (N := some 67) (v := ?_) (a' := ?_) #[true, true, true, true, false, true, true, true, false, false, false, false, false, false, false, false, false, false, false, false, false, false, false, false, false, false, false, false] rfl rfl (any_of HT_.out (by kernel_rfl)) (fun _ _ _ h => h) (Or.inl ⟨by rfl, ?_⟩) ?_ ?_
                                rotate_left
                                · intro w'
                                  go_simp
                                  with_reducible rfl
                                rotate_left
                                · simp only [Act.put, List.setIfInBounds_toArray, List.set_cons_zero, List.set_cons_succ, i64_w, i32_w]
                                  rfl
                                refine take_ (i := 4) (N := some 64) (v := ?_) (a' := ?_) #[true, true, true, true, true, true, true, true, false, false, false, false, false, false, false, false, false, false, false, false, false, false, false, false, false, false, false, false] rfl rfl (take_ofW HT_.out HW_.out (by kernel_rfl)) (fun _ _ _ h => h) (Or.inl ⟨by rfl, ?_⟩) hHeld ?_ ?_
                                rotate_left
                                · rintro w' ⟨s0, s1, s2, s3, s4, s5⟩
                                  go_simp
                                  with_reducible rfl
                                rotate_left
                                · simp only [Act.put, List.setIfInBounds_toArray, List.set_cons_zero, List.set_cons_succ, i64_w, i32_w]
                                  rfl
                                refine take_ (i := 8) (N := some 68) (v := ?_) (a' := ?_) #[true, true, true, true, true, true, true, true, true, false, false, false, false, false, false, false, false, false, false, false, false, false, false, false, false, false, false, false] rfl rfl (take_ofW HT_.out HW_.out (by kernel_rfl)) (fun _ _ _ h => h) (Or.inl ⟨by rfl, ?_⟩) hHeld ?_ ?_
                                rotate_left
                                · rintro w' ⟨s0, s1, s2, s3, s4, s5⟩
                                  go_simp
                                  with_reducible rfl
                                rotate_left
                                · simp only [Act.put, List.setIfInBounds_toArray, List.set_cons_zero, List.set_cons_succ, i64_w, i32_w]
                                  rfl
                                refine pure_ (i := 9) (N := some 69) (v := ?_) (a' := ?_) #[true, true, true, true, true, true, true, true, true, true, false, false, false, false, false, false, false, false, false, false, false, false, false, false, false, false, false, false] rfl rfl (any_of HT_.out (by kernel_rfl)) (fun _ _ _ h => h) (Or.inl ⟨by rfl, ?_⟩) ?_ ?_
                                rotate_left
                                · intro w'
                                  go_simp
                                  with_reducible rfl
                                rotate_left
                                · simp only [Act.put, List.setIfInBounds_toArray, List.set_cons_zero, List.set_cons_succ, i64_w, i32_w]
                                  rfl
                                refine pure_ (i := 10) (N := some 70) (v := ?_) (a' := ?_) #[true, true, true, true, true, true, true, true, true, true, true, false, false, false, false, false, false, false, false, false, false, false, false, false, false, false, false, false] rfl rfl (any_of HT_.out (by kernel_rfl)) (fun _ _ _ h => h) (Or.inl ⟨by rfl, ?_⟩) ?_ ?_
                                rotate_left
                                · intro w'
                                  go_simp
                                  with_reducible rfl
                                rotate_left
                                · simp only [Act.put, List.setIfInBounds_toArray, List.set_cons_zero, List.set_cons_succ, i64_w, i32_w]
                                  rfl
                                refine pure_ (i := 11) (N := some 71) (v := ?_) (a' := ?_) #[true, true, true, true, true, true, true, true, true, true, true, true, false, false, false, false, false, false, false, false, false, false, false, false, false, false, false, false] rfl rfl (any_of HT_.out (by kernel_rfl)) (fun _ _ _ h => h) (Or.inl ⟨by rfl, ?_⟩) ?_ ?_
                                rotate_left
                                · intro w'
                                  go_simp
                                  with_reducible rfl
                                rotate_left
                                · simp only [Act.put, List.setIfInBounds_toArray, List.set_cons_zero, List.set_cons_succ, i64_w, i32_w]
                                  rfl
                                refine pure_ (i := 12) (N := some 72) (v := ?_) (a' := ?_) #[true, true, true, true, true, true, true, true, true, true, true, true, true, false, false, false, false, false, false, false, false, false, false, false, false, false, false, false] rfl rfl (any_of HT_.out (by kernel_rfl)) (fun _ _ _ h => h) (Or.inl ⟨by rfl, ?_⟩) ?_ ?_
                                rotate_left
                                · intro w'
                                  go_simp
                                  with_reducible rfl
                                rotate_left
                                · simp only [Act.put, List.setIfInBounds_toArray, List.set_cons_zero, List.set_cons_succ, i64_w, i32_w]
                                  rfl
                                refine pure_ (i := 14) (N := some 74) (v := ?_) (a' := ?_) #[true, true, true, true, true, true, true, true, true, true, true, true, true, false, true, false, false, false, false, false, false, false, false, false, false, false, false, false] rfl rfl (any_of HT_.out (by kernel_rfl)) (fun _ _ _ h => h) (Or.inl ⟨by rfl, ?_⟩) ?_ ?_
                                rotate_left
                                · intro w'
                                  go_simp
                                  with_reducible rfl
                                rotate_left
                                · simp only [Act.put, List.setIfInBounds_toArray, List.set_cons_zero, List.set_cons_succ, i64_w, i32_w]
                                  rfl
                                refine pure_ (i := 15) (N := some 75) (v := ?_) (a' := ?_) #[true, true, true, true, true, true, true, true, true, true, true, true, true, false, true, true, false, false, false, false, false, false, false, false, false, false, false, false] rfl rfl (any_of HT_.out (by kernel_rfl)) (fun _ _ _ h => h) (Or.inl ⟨by rfl, ?_⟩) ?_ ?_
                                rotate_left
                                · intro w'
                                  go_simp
                                  with_reducible rfl
                                rotate_left
                                · simp only [Act.put, List.setIfInBounds_toArray, List.set_cons_zero, List.set_cons_succ, i64_w, i32_w]
                                  rfl
                                refine pure_ (i := 16) (N := some 76) (v := ?_) (a' := ?_) #[true, true, true, true, true, true, true, true, true, true, true, true, true, false, true, true, true, false, false, false, false, false, false, false, false, false, false, false] rfl rfl (any_of HT_.out (by kernel_rfl)) (fun _ _ _ h => h) (Or.inl ⟨by rfl, ?_⟩) ?_ ?_
                                rotate_left
                                · intro w'
                                  go_simp
                                  with_reducible rfl
                                rotate_left
                                · simp only [Act.put, List.setIfInBounds_toArray, List.set_cons_zero, List.set_cons_succ, i64_w, i32_w]
                                  rfl
                                refine take_ (i := 13) (N := some 73) (v := ?_) (a' := ?_) #[true, true, true, true, true, true, true, true, true, true, true, true, true, true, true, true, true, false, false, false, false, false, false, false, false, false, false, false] rfl rfl (take_ofW HT_.out HW_.out (by kernel_rfl)) (fun _ _ _ h => h) (Or.inl ⟨by rfl, ?_⟩) hHeld ?_ ?_
                                rotate_left
                                · rintro w' ⟨s0, s1, s2, s3, s4, s5⟩
                                  go_simp
                                  with_reducible rfl
                                rotate_left
                                · simp only [Act.put, List.setIfInBounds_toArray, List.set_cons_zero, List.set_cons_succ, i64_w, i32_w]
                                  rfl
                                refine take_ (i := 17) (N := some 77) (v := ?_) (a' := ?_) #[true, true, true, true, true, true, true, true, true, true, true, true, true, true, true, true, true, true, false, false, false, false, false, false, false, false, false, false] rfl rfl (take_ofW HT_.out HW_.out (by kernel_rfl)) (fun _ _ _ h => h) (Or.inl ⟨by rfl, ?_⟩) hHeld ?_ ?_
                                rotate_left
                                · rintro w' ⟨s0, s1, s2, s3, s4, s5⟩
                                  go_simp
                                  with_reducible rfl
                                rotate_left
                                · simp only [Act.put, List.setIfInBounds_toArray, List.set_cons_zero, List.set_cons_succ, i64_w, i32_w]
                                  rfl
                                refine pure_ (i := 18) (N := some 78) (v := ?_) (a' := ?_) #[true, true, true, true, true, true, true, true, true, true, true, true, true, true, true, true, true, true, true, false, false, false, false, false, false, false, false, false] rfl rfl (any_of HT_.out (by kernel_rfl)) (fun _ _ _ h => h) (Or.inl ⟨by rfl, ?_⟩) ?_ ?_
                                rotate_left
                                · intro w'
                                  go_simp
                                  with_reducible rfl
                                rotate_left
                                · simp only [Act.put, List.setIfInBounds_toArray, List.set_cons_zero, List.set_cons_succ, i64_w, i32_w]
                                  rfl
                                refine pure_ (i := 19) (N := some 79) (v := ?_) (a' := ?_) #[true, true, true, true, true, true, true, true, true, true, true, true, true, true, true, true, true, true, true, true, false, false, false, false, false, false, false, false] rfl rfl (any_of HT_.out (by kernel_rfl)) (fun _ _ _ h => h) (Or.inl ⟨by rfl, ?_⟩) ?_ ?_
                                rotate_left
                                · intro w'
                                  go_simp
                                  with_reducible rfl
                                rotate_left
                                · simp only [Act.put, List.setIfInBounds_toArray, List.set_cons_zero, List.set_cons_succ, i64_w, i32_w]
                                  rfl
                                refine pure_ (i := 20) (N := some 80) (v := ?_) (a' := ?_) #[true, true, true, true, true, true, true, true, true, true, true, true, true, true, true, true, true, true, true, true, true, false, false, false, false, false, false, false] rfl rfl (any_of HT_.out (by kernel_rfl)) (fun _ _ _ h => h) (Or.inl ⟨by rfl, ?_⟩) ?_ ?_
                                rotate_left
                                · intro w'
                                  go_simp
                                  with_reducible rfl
                                rotate_left
                                · simp only [Act.put, List.setIfInBounds_toArray, List.set_cons_zero, List.set_cons_succ, i64_w, i32_w]
                                  rfl
                                refine pure_ (i := 21) (N := some 81) (v := ?_) (a' := ?_) #[true, true, true, true, true, true, true, true, true, true, true, true, true, true, true, true, true, true, true, true, true, true, false, false, false, false, false, false] rfl rfl (any_of HT_.out (by kernel_rfl)) (fun _ _ _ h => h) (Or.inl ⟨by rfl, ?_⟩) ?_ ?_
                                rotate_left
                                · intro w'
                                  go_simp
                                  with_reducible rfl
                                rotate_left
                                · simp only [Act.put, List.setIfInBounds_toArray, List.set_cons_zero, List.set_cons_succ, i64_w, i32_w]
                                  rfl
                                refine pure_ (i := 22) (N := some 82) (v := ?_) (a' := ?_) #[true, true, true, true, true, true, true, true, true, true, true, true, true, true, true, true, true, true, true, true, true, true, true, false, false, false, false, false] rfl rfl (any_of HT_.out (by kernel_rfl)) (fun _ _ _ h => h) (Or.inl ⟨by rfl, ?_⟩) ?_ ?_
                                rotate_left
                                · intro w'
                                  go_simp
                                  with_reducible rfl
                                rotate_left
                                · simp only [Act.put, List.setIfInBounds_toArray, List.set_cons_zero, List.set_cons_succ, i64_w, i32_w]
                                  rfl
                                refine pure_ (i := 23) (N := some 83) (v := ?_) (a' := ?_) #[true, true, true, true, true, true, true, true, true, true, true, true, true, true, true, true, true, true, true, true, true, true, true, true, false, false, false, false] rfl rfl (any_of HT_.out (by kernel_rfl)) (fun _ _ _ h => h) (Or.inl ⟨by rfl, ?_⟩) ?_ ?_
                                rotate_left
                                · intro w'
                                  go_simp
                                  with_reducible rfl
                                rotate_left
                                · simp only [Act.put, List.setIfInBounds_toArray, List.set_cons_zero, List.set_cons_succ, i64_w, i32_w]
                                  rfl
                                refine pure_ (i := 24) (N := some 84) (v := ?_) (a' := ?_) #[true, true, true, true, true, true, true, true, true, true, true, true, true, true, true, true, true, true, true, true, true, true, true, true, true, false, false, false] rfl rfl (any_of HT_.out (by kernel_rfl)) (fun _ _ _ h => h) (Or.inl ⟨by rfl, ?_⟩) ?_ ?_
                                rotate_left
                                · intro w'
                                  go_simp
                                  with_reducible rfl
                                rotate_left
                                · simp only [Act.put, List.setIfInBounds_toArray, List.set_cons_zero, List.set_cons_succ, i64_w, i32_w]
                                  rfl
                                refine pure_ (i := 25) (N := some 85) (v := ?_) (a' := ?_) #[true, true, true, true, true, true, true, true, true, true, true, true, true, true, true, true, true, true, true, true, true, true, true, true, true, true, false, false] rfl rfl (any_of HT_.out (by kernel_rfl)) (fun _ _ _ h => h) (Or.inl ⟨by rfl, ?_⟩) ?_ ?_
                                rotate_left
                                · intro w'
                                  go_simp
                                  with_reducible rfl
                                rotate_left
                                · simp only [Act.put, List.setIfInBounds_toArray, List.set_cons_zero, List.set_cons_succ, i64_w, i32_w]
                                  rfl
                                refine pure_ (i := 26) (N := some 86) (v := ?_) (a' := ?_) #[true, true, true, true, true, true, true, true, true, true, true, true, true, true, true, true, true, true, true, true, true, true, true, true, true, true, true, false] rfl rfl (any_of HT_.out (by kernel_rfl)) (fun _ _ _ h => h) (Or.inl ⟨by rfl, ?_⟩) ?_ ?_
                                rotate_left
                                · intro w'
                                  go_simp
                                  with_reducible rfl
                                rotate_left
                                · simp only [Act.put, List.setIfInBounds_toArray, List.set_cons_zero, List.set_cons_succ, i64_w, i32_w]
                                  rfl
                                refine pure_ (i := 27) (N := some 87) (v := ?_) (a' := ?_) #[true, true, true, true, true, true, true, true, true, true, true, true, true, true, true, true, true, true, true, true, true, true, true, true, true, true, true, true] rfl rfl (any_of HT_.out (by kernel_rfl)) (fun _ _ _ h => h) (Or.inl ⟨by rfl, ?_⟩) ?_ ?_
                                rotate_left
                                · intro w'
                                  go_simp
                                  with_reducible rfl
                                rotate_left
                                · simp only [Act.put, List.setIfInBounds_toArray, List.set_cons_zero, List.set_cons_succ, i64_w, i32_w]
                                  rfl
                                refine done_ (done_of HT_.out (by kernel_rfl)) ?_
                                have q33 : (1 : Int) ≤ ((x6_1.length : Int) : Int) := of_decide_eq_true (by first | (with_reducible assumption) | assumption)
                                obtain ⟨i033, hi033, _, hsz33, _⟩ := info_parts info49
                                have hcut33 := cut_from (P := Try.prog) 39 49 .i64 Try.underlying39 hi033 2 hsz33 (some ad360) x6_1.length co29 1 (by omega) q33
                                have hr33 := Kd.Q_drop (k := (1 : Int).toNat) HO_6.out (by omega)
                                obtain ⟨A33, hA33⟩ : ∃ A33, A33 = (if co29 = (1 : Int).toNat then (some ad360) else ((some ad360) : Option Addr).map (·.add ((1 : Int).toNat * 2))) := ⟨_, rfl⟩
                                obtain ⟨c33, hc33⟩ : ∃ c1, c1 = co29 - (1 : Int).toNat := ⟨_, rfl⟩
                                have hy33 : y362.length = x6_1.length - (1 : Int).toNat := (by rw [Ny362.out, List.length_drop])
                                rw [← Ny362.out] at hr33
                                rw [← hy33, ← hA33, ← hc33] at hcut33
                                replace hr33 : Kd.Q k49 49 w31 w.heap.size (fun _ => True) (.slice A33 y362.length c33) y362 := (by rw [hA33, hc33, hy33]; exact hr33)
                                have HE33 : Aside0 ((Value.slice A33 y362.length c33).ownBlock = (.slice (some ad360) x6_1.length co29 : Value).ownBlock) := ⟨by rw [hA33]; split <;> (cases ((some ad360) : Option Addr) <;> rfl)⟩
                                clear hy33 hi033 hsz33 HO_6 hA33 hc33
                                have HO364 := Aside0.mk hr33
                                clear hr33
                                replace q33 := eq_true q33
                                try go_wp2
                                go_roundg kj2
                                case measure => have := HK1.out; have := HJ2.out; omega
                                case rel => exact ⟨(t355), (y362), (wrap64 (x7_1 + 1)), (by first | rfl | (simp; done) | (simp [*]; done)), H', ⟨by have := HK1.out; have := HJ2.out; omega⟩, ⟨by (with_reducible repeat (first | apply Kd.R_alloc | apply Kd.R_drewN | apply Kd.R_drew)); exact Kd.R_mono HO357.out (fun _ hk => trivial)⟩, ⟨by (with_reducible repeat (first | apply Kd.Q_alloc | apply Kd.Q_drewN | apply Kd.Q_drew)); exact HO364.out⟩, ⟨by repeat (first | (with_reducible first | exact HB.out | apply below_alloc | apply pw_below_drewN | apply below_drew1 | refine below_set ?_ GE359.out) | exact HB.out)⟩⟩
                              · rw [if_neg c24] at H
                                exact absurd H (by simp)
                            · rw [if_neg c23] at H
                              have c23b0 : ((t355.length : Int) == (wrap64 ((x6_1.length : Int) - 1))) = false := beq_eq_false_iff_ne.mpr c23
                              have c23b1 : ((t355.length : Int) != (wrap64 ((x6_1.length : Int) - 1))) = true := bne_iff_ne.mpr c23
                              exact absurd H (by simp)
                          · rw [if_neg c22] at H
                            have c22b0 : (t354 == ((rd_T49 x6_1 0).f1)) = false := beq_eq_false_iff_ne.mpr c22
                            have c22b1 : (t354 != ((rd_T49 x6_1 0).f1)) = true := bne_iff_ne.mpr c22
                            exact absurd H (by simp)
                        · rw [if_neg c21] at H
                          have c21b0 : (t353 == ((rd_T49 x6_1 0).f0)) = false := beq_eq_false_iff_ne.mpr c21
                          have c21b1 : (t353 != ((rd_T49 x6_1 0).f0)) = true := bne_iff_ne.mpr c21
                          exact absurd H (by simp)
                      · rw [if_neg c20] at H
                        exact absurd H (by simp)
                    · rw [if_neg c19] at H
                      have c19b0 : (t358 == 0) = false := beq_eq_false_iff_ne.mpr c19
                      have c19b1 : (t358 != 0) = true := bne_iff_ne.mpr c19
                      exact absurd H (by simp)
                · replace c10 := Bool.eq_false_iff.mpr c10
                  subst c10
                  have H1 : (if x7_1 < (l0.length : Int) then ((heap_Push.f kj2 x5_1 ((rd_T34 l0 x7_1).f0) ((rd_T34 l0 x7_1).f1)).bind fun t331 => ((some (([] : List (S49)) : List (S49))).bind fun y334 => (if y334.length + x6_1.length < 8796093022208 then ((some (y334 ++ x6_1 : List (S49))).bind fun y337 => (if x7_1 ≤ (wrap64 (x7_1 + 1)) then (if (wrap64 (x7_1 + 1)) ≤ (l0.length : Int) then ((remontoirlaw02_as.f kj2 ((l0.take ((wrap64 (x7_1 + 1)) : Int).toNat).drop (x7_1 : Int).toNat)).bind fun t344 => (if y337.length + t344.length < 8796093022208 then ((remontoirref02_Sort.f kj2 (y337 ++ t344)).bind fun t350 => (remontoirlaw02_HeapRows.l0 kj2 l0 l1 t331 t350 (wrap64 (x7_1 + 1)))) else (none))) else (none)) else (none))) else (none)))) else (none)) = some true := by rw [if_neg (show ¬ (false = true) by decide)] at H; exact H
                  clear H
                  have H := H1
                  clear H1
                  by_cases c34 : x7_1 < (l0.length : Int)
                  · rw [if_pos c34] at H
                    have c34b0 : decide (x7_1 < (l0.length : Int)) = true := decide_eq_true c34
                    clear c34
                    replace H := Option.bind_eq_some_iff.mp H
                    obtain ⟨t331, A350, H⟩ := H
                    replace H : ((some (([] : List (S49)) : List (S49))).bind fun y334 => (if y334.length + x6_1.length < 8796093022208 then ((some (y334 ++ x6_1 : List (S49))).bind fun y337 => (if x7_1 ≤ (wrap64 (x7_1 + 1)) then (if (wrap64 (x7_1 + 1)) ≤ (l0.length : Int) then ((remontoirlaw02_as.f kj2 ((l0.take ((wrap64 (x7_1 + 1)) : Int).toNat).drop (x7_1 : Int).toNat)).bind fun t344 => (if y337.length + t344.length < 8796093022208 then ((remontoirref02_Sort.f kj2 (y337 ++ t344)).bind fun t350 => (remontoirlaw02_HeapRows.l0 kj2 l0 l1 t331 t350 (wrap64 (x7_1 + 1)))) else (none))) else (none)) else (none))) else (none))) = some true := H
                    have A35 := Aside0.mk A350
                    clear A350
                    obtain ⟨y334, hy334⟩ : ∃ y_ : List (S49), y_ = (([] : List (S49))) := ⟨_, rfl⟩
                    replace H : (if y334.length + x6_1.length < 8796093022208 then ((some (y334 ++ x6_1 : List (S49))).bind fun y337 => (if x7_1 ≤ (wrap64 (x7_1 + 1)) then (if (wrap64 (x7_1 + 1)) ≤ (l0.length : Int) then ((remontoirlaw02_as.f kj2 ((l0.take ((wrap64 (x7_1 + 1)) : Int).toNat).drop (x7_1 : Int).toNat)).bind fun t344 => (if y337.length + t344.length < 8796093022208 then ((remontoirref02_Sort.f kj2 (y337 ++ t344)).bind fun t350 => (remontoirlaw02_HeapRows.l0 kj2 l0 l1 t331 t350 (wrap64 (x7_1 + 1)))) else (none))) else (none)) else (none))) else (none)) = some true := by first | (rw [hy334]; with_reducible exact H) | (have H2_ := (Option.bind_some _ _).symm.trans H; rw [hy334]; with_reducible exact H2_) | (have H2_ := (Option.bind_some _ _).symm.trans H; with_reducible exact H2_) | with_reducible exact H | (rw [hy334]; exact H) | exact H
                    have Ny334 := Aside0.mk hy334
                    clear hy334
                    by_cases c36 : y334.length + x6_1.length < 8796093022208
                    · rw [if_pos c36] at H
                      have LMc36 := Aside0.mk c36
                      clear c36
                      obtain ⟨y337, hy337⟩ : ∃ y_ : List (S49), y_ = (y334 ++ x6_1) := ⟨_, rfl⟩
                      replace H : (if x7_1 ≤ (wrap64 (x7_1 + 1)) then (if (wrap64 (x7_1 + 1)) ≤ (l0.length : Int) then ((remontoirlaw02_as.f kj2 ((l0.take ((wrap64 (x7_1 + 1)) : Int).toNat).drop (x7_1 : Int).toNat)).bind fun t344 => (if y337.length + t344.length < 8796093022208 then ((remontoirref02_Sort.f kj2 (y337 ++ t344)).bind fun t350 => (remontoirlaw02_HeapRows.l0 kj2 l0 l1 t331 t350 (wrap64 (x7_1 + 1)))) else (none))) else (none)) else (none)) = some true := by first | (rw [hy337]; with_reducible exact H) | (have H2_ := (Option.bind_some _ _).symm.trans H; rw [hy337]; with_reducible exact H2_) | (have H2_ := (Option.bind_some _ _).symm.trans H; with_reducible exact H2_) | with_reducible exact H | (rw [hy337]; exact H) | exact H
                      have Ny337 := Aside0.mk hy337
                      clear hy337
                      have c37b0 := eq_true (of_decide_eq_true (by first | (with_reducible assumption) | assumption) : 0 ≤ x7_1)
                      by_cases c38 : x7_1 ≤ (wrap64 (x7_1 + 1))
                      · rw [if_pos c38] at H
                        have c38b0 := eq_true c38
                        have c38b1 : decide (x7_1 ≤ (wrap64 (x7_1 + 1))) = true := decide_eq_true c38
                        by_cases c39 : (wrap64 (x7_1 + 1)) ≤ (l0.length : Int)
                        · rw [if_pos c39] at H
                          have c39b0 := eq_true c39
                          have c39b1 : decide ((wrap64 (x7_1 + 1)) ≤ (l0.length : Int)) = true := decide_eq_true c39
                          obtain ⟨y340, hy340⟩ : ∃ y_ : List (S34), y_ = ((l0.take ((wrap64 (x7_1 + 1)) : Int).toNat).drop (x7_1 : Int).toNat) := ⟨_, rfl⟩
                          replace H : ((remontoirlaw02_as.f kj2 y340).bind fun t344 => (if y337.length + t344.length < 8796093022208 then ((remontoirref02_Sort.f kj2 (y337 ++ t344)).bind fun t350 => (remontoirlaw02_HeapRows.l0 kj2 l0 l1 t331 t350 (wrap64 (x7_1 + 1)))) else (none))) = some true := by first | (rw [hy340]; with_reducible exact H) | (have H2_ := (Option.bind_some _ _).symm.trans H; rw [hy340]; with_reducible exact H2_) | (have H2_ := (Option.bind_some _ _).symm.trans H; with_reducible exact H2_) | with_reducible exact H | (rw [hy340]; exact H) | exact H
                          have Ny340 := Aside0.mk hy340
                          clear hy340
                          replace H := Option.bind_eq_some_iff.mp H
                          obtain ⟨t344, A400, H⟩ := H
                          replace H : (if y337.length + t344.length < 8796093022208 then ((remontoirref02_Sort.f kj2 (y337 ++ t344)).bind fun t350 => (remontoirlaw02_HeapRows.l0 kj2 l0 l1 t331 t350 (wrap64 (x7_1 + 1)))) else (none)) = some true := H
                          have A40 := Aside0.mk A400
                          clear A400
                          by_cases c41 : y337.length + t344.length < 8796093022208
                          · rw [if_pos c41] at H
                            have LMc41 := Aside0.mk c41
                            clear c41
                            obtain ⟨y347, hy347⟩ : ∃ y_ : List (S49), y_ = (y337 ++ t344) := ⟨_, rfl⟩
                            replace H : ((remontoirref02_Sort.f kj2 y347).bind fun t350 => (remontoirlaw02_HeapRows.l0 kj2 l0 l1 t331 t350 (wrap64 (x7_1 + 1)))) = some true := by first | (rw [hy347]; with_reducible exact H) | (have H2_ := (Option.bind_some _ _).symm.trans H; rw [hy347]; with_reducible exact H2_) | (have H2_ := (Option.bind_some _ _).symm.trans H; with_reducible exact H2_) | with_reducible exact H | (rw [hy347]; exact H) | exact H
                            have Ny347 := Aside0.mk hy347
                            clear hy347
                            replace H := Option.bind_eq_some_iff.mp H
                            obtain ⟨t350, A420, H⟩ := H
                            replace H : (remontoirlaw02_HeapRows.l0 kj2 l0 l1 t331 t350 (wrap64 (x7_1 + 1))) = some true := H
                            have A42 := Aside0.mk A420
                            clear A420
                            have H' := Aside0.mk H
                            clear H
                            have p329 : 0 ≤ (x7_1 : Int) := of_decide_eq_true (by first | (with_reducible assumption) | assumption)
                            have q329 : x7_1 < (l1.length : Int) := of_decide_eq_true (by first | (with_reducible assumption) | assumption)
                            obtain ⟨ad329, e329, hx329_0⟩ := Kd.at_bool HR1.out x7_1 p329 q329
                            (try rw [← Nbq9.out] at hx329_0)
                            cases e329
                            replace hx329_0 := (HB.out.cell (World.block_lt_of_cell? w _ hx329_0)).trans hx329_0
                            replace p329 := eq_true p329
                            replace q329 := eq_true q329
                            have p330 : 0 ≤ (x7_1 : Int) := of_decide_eq_true (by first | (with_reducible assumption) | assumption)
                            have q330 : x7_1 < (l0.length : Int) := of_decide_eq_true (by first | (with_reducible assumption) | assumption)
                            obtain ⟨ad330, e330, hx330_0, hx330_1⟩ := at_T34 HR0.out x7_1 p330 q330
                            cases e330
                            replace hx330_0 := (HB.out.cell (World.block_lt_of_cell? w _ hx330_0)).trans hx330_0
                            replace hx330_1 := (HB.out.cell (World.block_lt_of_cell? w _ hx330_1)).trans hx330_1
                            replace p330 := eq_true p330
                            replace q330 := eq_true q330
                            obtain ⟨Ao43, co43, eo43⟩ := Kd.R_slice HO_5.out
                            subst eo43
                            try go_wp2_with (first | ((with_reducible refine gate_callee (f := 26) rfl ?_); refine goesL_ (some 37) rfl rfl Try.func26 (by kernel_rfl) rfl #[.slice Ao43 x5_1.length co43, .agg #[.int .i64 ((rd_T34 l0 x7_1).f0), .int .i64 ((rd_T34 l0 x7_1).f1)]] rfl (by (try simp only [List.map_toArray, List.map_cons, List.map_nil]); first | done | rfl | (simp only [List.length_drop, List.length_take]; rfl)) ?_; (with_reducible refine (heap_Push.calls kj2 _ _ x5_1 ((rd_T34 l0 x7_1).f0) ((rd_T34 l0 x7_1).f1) t331 _ ?side1 ?side2 A35.out).mono ?_); (case side1 => repeat (first | exact (Kd.R_reads' HO_5.out).2.2 | (with_reducible refine Kd.C_alloc ?_ _) | (with_reducible refine Kd.C_drewN ?_ _) | (with_reducible refine Kd.C_drew ?_))); (case side2 => exact (Kd.R_reads' HO_5.out).2.1); rintro e w44 ⟨v332, rfl, ho0, hb⟩; refine ⟨_, rfl, ?_⟩; have n0_ := Aside0.mk (Kd.R_elder' (by (with_reducible repeat (first | apply Kd.R_alloc | apply Kd.R_drewN | apply Kd.R_drew)); exact HO_5.out) (Kd.R_base ho0) hb); have n1_ := Aside0.mk (Kd.Q_below (by (with_reducible repeat (first | apply Kd.Q_alloc | apply Kd.Q_drewN | apply Kd.Q_drew)); exact HO_6.out) hb); have n2_ := Aside0.mk (Kd.R_lower (Kd.R_new' ho0 (Kd.R_lt (by (with_reducible repeat (first | apply Kd.R_alloc | apply Kd.R_drewN | apply Kd.R_drew)); exact HO_5.out))) (below_size (by repeat (first | (with_reducible first | exact HB.out | apply below_alloc | apply pw_below_drewN | apply below_drew1) | exact HB.out)))); have n3_ := Aside0.mk (below_step (by repeat (first | (with_reducible first | exact HB.out | apply below_alloc | apply pw_below_drewN | apply below_drew1) | exact HB.out)) hb); clear HO_5; clear HO_6; clear HB; have HO_5 := n0_; have HO_6 := n1_; have HO333 := n2_; have HB := n3_; clear n0_ n1_ n2_ n3_; (try clear hb); (try clear hb2); (try clear hk); (try clear hi); (try clear ho0)))
                            have n0_ := Aside0.mk (Kd.R_drew HO_5.out)
                            have n1_ := Aside0.mk (Kd.Q_drew HO_6.out)
                            have n2_ := Aside0.mk (Kd.R_drew HO333.out)
                            have n3_ := Aside0.mk (below_drew1 HB.out)
                            clear HO_5
                            clear HO_6
                            clear HO333
                            clear HB
                            have HO_5 := n0_
                            have HO_6 := n1_
                            have HO333 := n2_
                            have HB := n3_
                            clear n0_ n1_ n2_ n3_
                            have q46 : ((wrap64 (x7_1 + 1)) : Int) ≤ ((l0.length : Int) : Int) := of_decide_eq_true (by first | (with_reducible assumption) | assumption)
                            obtain ⟨i046, hi046, _, hsz46, _⟩ := info_parts info34
                            have hroom46 : l0.length ≤ c0 := HC0.out
                            have hC46 : Kd.C k34 _ (some ad330) l0.length l0 := HR0.out
                            have ql46 : (x7_1 : Int) ≤ ((wrap64 (x7_1 + 1)) : Int) := of_decide_eq_true (by first | (with_reducible assumption) | assumption)
                            have q046 : (0 : Int) ≤ (x7_1 : Int) := of_decide_eq_true (by first | (with_reducible assumption) | assumption)
                            have hcut46 := cut_mid (P := Try.prog) 32 34 .i64 .i64 Try.underlying32 hi046 2 hsz46 (some ad330) l0.length c0 x7_1 (wrap64 (x7_1 + 1)) q046 ql46 q46 hroom46
                            have hr46 := Kd.C_mid (lo := (x7_1 : Int).toNat) (hi := ((wrap64 (x7_1 + 1)) : Int).toNat) (c := c0) hC46 (by omega) (by omega) hroom46
                            obtain ⟨A46, hA46⟩ : ∃ A46, A46 = (if c0 = (x7_1 : Int).toNat then (some ad330) else ((some ad330) : Option Addr).map (·.add ((x7_1 : Int).toNat * 2))) := ⟨_, rfl⟩
                            obtain ⟨c46, hc46⟩ : ∃ c1, c1 = c0 - (x7_1 : Int).toNat := ⟨_, rfl⟩
                            have hy46 : y340.length = ((wrap64 (x7_1 + 1)) : Int).toNat - (x7_1 : Int).toNat := (by rw [Ny340.out, List.length_drop, List.length_take] <;> omega)
                            rw [show ((l0).take ((wrap64 (x7_1 + 1)) : Int).toNat).drop (x7_1 : Int).toNat = y340 from Ny340.out.symm] at hr46
                            replace hr46 : Kd.C k34 _ A46 y340.length y340 := (by rw [hA46]; exact hr46)
                            rw [← hy46, ← hA46, ← hc46] at hcut46
                            have HR343 := Aside0.mk hr46
                            have HC343 := Aside0.mk (show y340.length ≤ c46 from by rw [hy46, hc46]; exact Nat.sub_le_sub_right (Nat.le_trans (by omega) hroom46) _)
                            have KC46 := Aside0.mk hc46
                            clear hr46 hC46 hroom46 hi046 hsz46 hc46
                            have KY46 := Aside0.mk hy46
                            have KA46 := Aside0.mk hA46
                            clear hy46 hA46
                            replace q46 := eq_true q46
                            refine start_ (n := 12) (S := fun w' => True) (ds := []) #[false, false, false, false, false, false, false, false, false, false, false, false] (by kernel_rfl) rfl rfl trivial (fun hHeld => ?_); refine with_tabW remontoirlaw02_HeapRows.tab8 remontoirlaw02_HeapRows.bits8 (fun HT_ HW_ => ?_)
                            generalize w44.drew = w45 at HO_5 HO_6 HO333 HB HR343 hHeld ⊢
                            refine pure_ (i := 1) (N := some 39) (v := ?_) (a' := ?_) #[false, true, false, false, false, false, false, false, false, false, false, false] rfl rfl (any_of HT_.out (by kernel_rfl)) (fun _ _ _ h => h) (Or.inl ⟨by rfl, ?_⟩) ?_ ?_
                            rotate_left
                            · intro w'
                              go_simp
                              with_reducible rfl
                            rotate_left
                            · simp only [Act.put, List.setIfInBounds_toArray, List.set_cons_zero, List.set_cons_succ, i64_w, i32_w]
                              rfl
                            refine pure_ (i := 3) (N := some 41) (v := ?_) (a' := ?_) #[false, true, false, true, false, false, false, false, false, false, false, false] rfl rfl (any_of HT_.out (by kernel_rfl)) (fun _ _ _ h => h) (Or.inl ⟨by rfl, ?_⟩) ?_ ?_
                            rotate_left
                            · intro w'
                              go_simp
                              with_reducible rfl
                            rotate_left
                            · simp only [Act.put, List.setIfInBounds_toArray, List.set_cons_zero, List.set_cons_succ, i64_w, i32_w]
                              rfl
                            refine pure_ (i := 4) (N := some 42) (v := ?_) (a' := ?_) #[false, true, false, true, true, false, false, false, false, false, false, false] rfl rfl (any_of HT_.out (by kernel_rfl)) (fun _ _ _ h => h) (Or.inl ⟨by rfl, ?_⟩) ?_ ?_
                            rotate_left
                            · intro w'
                              go_simp
                              with_reducible rfl
                            rotate_left
                            · simp only [Act.put, List.setIfInBounds_toArray, List.set_cons_zero, List.set_cons_succ, i64_w, i32_w]
                              rfl
                            refine pure_ (i := 5) (N := some 43) (v := ?_) (a' := ?_) #[false, true, false, true, true, true, false, false, false, false, false, false] rfl rfl (any_of HT_.out (by kernel_rfl)) (fun _ _ _ h => h) (Or.inl ⟨by rfl, ?_⟩) ?_ ?_
                            rotate_left
                            · intro w'
                              go_simp
                              with_reducible rfl
                            rotate_left
                            · simp only [Act.put, List.setIfInBounds_toArray, List.set_cons_zero, List.set_cons_succ, i64_w, i32_w]
                              rfl
                            refine pure_ (i := 6) (N := some 44) (v := ?_) (a' := ?_) #[false, true, false, true, true, true, true, false, false, false, false, false] rfl rfl (any_of HT_.out (by kernel_rfl)) (fun _ _ _ h => h) (Or.inl ⟨by rfl, ?_⟩) ?_ ?_
                            rotate_left
                            · intro w'
                              go_simp
                              with_reducible rfl
                            rotate_left
                            · simp only [Act.put, List.setIfInBounds_toArray, List.set_cons_zero, List.set_cons_succ, i64_w, i32_w]
                              rfl
                            refine pure_ (i := 7) (N := some 45) (v := ?_) (a' := ?_) #[false, true, false, true, true, true, true, true, false, false, false, false] rfl rfl (any_of HT_.out (by kernel_rfl)) (fun _ _ _ h => h) (Or.inl ⟨by rfl, ?_⟩) ?_ ?_
                            rotate_left
                            · intro w'
                              go_simp
                              with_reducible rfl
                            rotate_left
                            · simp only [Act.put, List.setIfInBounds_toArray, List.set_cons_zero, List.set_cons_succ, i64_w, i32_w]
                              rfl
                            refine one_ (i := 0) (N := some 38) #[true, true, false, true, true, true, true, true, false, false, false, false] rfl rfl (one_of HT_.out (by kernel_rfl)) (by decide) (fun K hK => ?_)
                            refine Kd.R_lit_step k49 _ 49 ?hg (N := 38) ?hd (xs := ([] : List (S49))) (inner := []) (ok := fun _ => True) (okp := fun _ => True) ?hr ?hp (fun _ hk => hk) trivial (Below.refl _ _) (Nat.le_refl _) (by simp) ?_; (case hd => rfl); (case hg => rfl); (case hr => first | (go_simp; done) | (go_simp; rfl)); (case hp => exact (Reps.none _ _))
                            intro v335 w47 ho48 hb hg_ hnew_
                            clear hg_ hnew_
                            (first | rw [← Ny334.out] at ho48 | (simp only [Int.reduceToNat] at ho48; rw [← Ny334.out] at ho48))
                            have n0_ := Aside0.mk (Kd.R_below (by (with_reducible repeat (first | apply Kd.R_alloc | apply Kd.R_drewN | apply Kd.R_drew)); exact HO_5.out) hb)
                            have n1_ := Aside0.mk (Kd.Q_elder' (by (with_reducible repeat (first | apply Kd.Q_alloc | apply Kd.Q_drewN | apply Kd.Q_drew)); exact HO_6.out) (Kd.R_base ho48) hb)
                            have n2_ := Aside0.mk (Kd.R_below (by (with_reducible repeat (first | apply Kd.R_alloc | apply Kd.R_drewN | apply Kd.R_drew)); exact HO333.out) hb)
                            have n3_ := Aside0.mk (Kd.R_lower (Kd.R_new' ho48 (Kd.Q_lt (by (with_reducible repeat (first | apply Kd.Q_alloc | apply Kd.Q_drewN | apply Kd.Q_drew)); exact HO_6.out))) (below_size (by repeat (first | (with_reducible first | exact HB.out | apply below_alloc | apply pw_below_drewN | apply below_drew1) | exact HB.out))))
                            have n4_ := Aside0.mk (below_step (by repeat (first | (with_reducible first | exact HB.out | apply below_alloc | apply pw_below_drewN | apply below_drew1) | exact HB.out)) hb)
                            clear HO_5
                            clear HO_6
                            clear HO333
                            clear HB
                            have HO_5 := n0_
                            have HO_6 := n1_
                            have HO333 := n2_
                            have HO336 := n3_
                            have HB := n4_
                            clear n0_ n1_ n2_ n3_ n4_
                            clear hb ho48
                            obtain ⟨Ao50, co50, eo50, _⟩ := Kd.Q_slice HO_6.out
                            (first | subst eo50 | (injection eo50 with f1_ f2_ f3_; have f4_ := f1_.symm; have f5_ := f3_.symm; clear f1_ f2_ f3_; subst f4_; subst f5_))
                            refine hK.out _ _ trivial (fun hHeld => ?_)
                            clear hK K
                            refine norm_ (a' := ?_) ?_ ?_
                            rotate_left
                            · show Act.put _ (some 38) _ = _
                              simp only [Act.put, List.setIfInBounds_toArray, List.set_cons_zero, List.set_cons_succ, i64_w, i32_w]
                              rfl
                            refine one_ (i := 2) (N := some 40) #[true, true, true, true, true, true, true, true, false, false, false, false] rfl rfl (one_of HT_.out (by kernel_rfl)) (by decide) (fun K hK => ?_)
                            refine Kd.R_append_rows_step k49 (w0 := w) w.heap.size (by rfl) (.tmp 38) (.tmp 39) 39 49 (.agg #[(.int .i64 0), (.int .i64 0)]) 16 rfl Try.underlying39 info49 rfl (by decide) (by omega) v335 y334 x6_1 _ _ _ (fun k_ => some k_ ≠ (.slice Ao50 x6_1.length co50 : Value).ownBlock) (fun _ => False) rfl rfl ?aO ?aR (fun _ _ h => h) (fun _ h => h.elim) ?aF ?aB ?aS ?aL ?_
                            (case aR => repeat (first | exact (Kd.Q_reads' HO_6.out).2.2 | (with_reducible refine Kd.C_alloc ?_ _) | (with_reducible refine Kd.C_drewN ?_ _) | (with_reducible refine Kd.C_drew ?_)))
                            (case aB => exact (by repeat (first | (with_reducible first | exact HB.out | apply below_alloc | apply pw_below_drewN | apply below_drew1) | exact HB.out)))
                            (case aF => exact (fun k_ hk => Kd.fresh' (Kd.Q_lt (by (with_reducible repeat (first | apply Kd.Q_alloc | apply Kd.Q_drewN | apply Kd.Q_drew)); exact HO_6.out)) k_ hk))
                            (case aO => exact (by (with_reducible repeat (first | apply Kd.R_alloc | apply Kd.R_drewN | apply Kd.R_drew)); exact Kd.R_mono HO336.out (fun _ hk => hk.2)))
                            (case aS => exact (below_size (by repeat (first | (with_reducible first | exact HB.out | apply below_alloc | apply pw_below_drewN | apply below_drew1) | exact HB.out))))
                            (case aL => have := LMc36.out; omega)
                            intro v338 w49 ho hb hg hat
                            rw [← Ny337.out] at ho
                            have n0_ := Aside0.mk (Kd.R_over' (by (with_reducible repeat (first | apply Kd.R_alloc | apply Kd.R_drewN | apply Kd.R_drew)); exact HO_5.out) (Kd.R_typed (by (with_reducible repeat (first | apply Kd.R_alloc | apply Kd.R_drewN | apply Kd.R_drew)); exact HO336.out)) (by decide) hg)
                            have n1_ := Aside0.mk (Kd.Q_after (ok := (fun _ => True)) (by (with_reducible repeat (first | apply Kd.Q_alloc | apply Kd.Q_drewN | apply Kd.Q_drew)); exact HO_6.out) hg hat)
                            have n2_ := Aside0.mk (Kd.R_over' (by (with_reducible repeat (first | apply Kd.R_alloc | apply Kd.R_drewN | apply Kd.R_drew)); exact HO333.out) (Kd.R_typed (by (with_reducible repeat (first | apply Kd.R_alloc | apply Kd.R_drewN | apply Kd.R_drew)); exact HO336.out)) (by decide) hg)
                            have n3_ := Aside0.mk (hb)
                            have n4_ := Aside0.mk (ho)
                            clear HO_5
                            clear HO_6
                            clear HO333
                            clear HB
                            clear HO336
                            have HO_5 := n0_
                            have HO_6 := n1_
                            have HO333 := n2_
                            have HB := n3_
                            have HO339 := n4_
                            clear n0_ n1_ n2_ n3_ n4_
                            clear ho hb hg hat
                            refine hK.out _ _ trivial (fun hHeld => ?_)
                            clear hK K
                            refine norm_ (a' := ?_) ?_ ?_
                            rotate_left
                            · show Act.put _ (some 40) _ = _
                              simp only [Act.put, List.setIfInBounds_toArray, List.set_cons_zero, List.set_cons_succ, i64_w, i32_w]
                              rfl
                            refine one_ (i := 8) (N := some 46) #[true, true, true, true, true, true, true, true, true, false, false, false] rfl rfl (one_of HT_.out (by kernel_rfl)) (by decide) (fun K hK => ?_)
                            refine goes_ Try.func29 (by kernel_rfl) rfl #[.slice A46 y340.length c46] (by rfl) rfl rfl (by (try simp only [List.map_toArray, List.map_cons, List.map_nil]); first | done | rfl | (simp only [KA46.out, KC46.out, KY46.out]; first | done | rfl) | (simp only [List.length_drop, List.length_take]; rfl)) ?_
                            with_reducible refine (remontoirlaw02_as.calls kj2 _ _ y340 t344 _ ?side1 ?side2 A40.out).mono ?_
                            (case side1 => repeat (first | exact (Kd.C_below HR343.out HB.out) | (with_reducible refine Kd.C_alloc ?_ _) | (with_reducible refine Kd.C_drewN ?_ _) | (with_reducible refine Kd.C_drew ?_)))
                            (case side2 => exact HC343.out)
                            rintro e w51 ⟨v345, rfl, ho0, hb⟩
                            refine ⟨_, rfl, ?_⟩
                            have n0_ := Aside0.mk (Kd.R_below (by (with_reducible repeat (first | apply Kd.R_alloc | apply Kd.R_drewN | apply Kd.R_drew)); exact HO_5.out) hb)
                            have n1_ := Aside0.mk (Kd.Q_elder' (by (with_reducible repeat (first | apply Kd.Q_alloc | apply Kd.Q_drewN | apply Kd.Q_drew)); exact HO_6.out) (Kd.R_base ho0) hb)
                            have n2_ := Aside0.mk (Kd.R_below (by (with_reducible repeat (first | apply Kd.R_alloc | apply Kd.R_drewN | apply Kd.R_drew)); exact HO333.out) hb)
                            have n3_ := Aside0.mk (Kd.R_elder' (by (with_reducible repeat (first | apply Kd.R_alloc | apply Kd.R_drewN | apply Kd.R_drew)); exact HO339.out) (Kd.R_base ho0) hb)
                            have n4_ := Aside0.mk (Kd.R_lower (Kd.R_new' (Kd.R_new' ho0 (Kd.Q_lt (by (with_reducible repeat (first | apply Kd.Q_alloc | apply Kd.Q_drewN | apply Kd.Q_drew)); exact HO_6.out))) (Kd.R_lt (by (with_reducible repeat (first | apply Kd.R_alloc | apply Kd.R_drewN | apply Kd.R_drew)); exact HO339.out))) (below_size (by repeat (first | (with_reducible first | exact HB.out | apply below_alloc | apply pw_below_drewN | apply below_drew1) | exact HB.out))))
                            have n5_ := Aside0.mk (below_step (by repeat (first | (with_reducible first | exact HB.out | apply below_alloc | apply pw_below_drewN | apply below_drew1) | exact HB.out)) hb)
                            clear HO_5
                            clear HO_6
                            clear HO333
                            clear HO339
                            clear HB
                            have HO_5 := n0_
                            have HO_6 := n1_
                            have HO333 := n2_
                            have HO339 := n3_
                            have HO346 := n4_
                            have HB := n5_
                            clear n0_ n1_ n2_ n3_ n4_ n5_
                            (try clear hb)
                            (try clear hb2)
                            (try clear hk)
                            (try clear hi)
                            (try clear ho0)
                            obtain ⟨Ao53, co53, eo53⟩ := Kd.R_slice HO346.out
                            (first | subst eo53 | (injection eo53 with f1_ f2_ f3_; have f4_ := f1_.symm; have f5_ := f3_.symm; clear f1_ f2_ f3_; subst f4_; subst f5_))
                            refine hK.out _ _ trivial (fun hHeld => ?_)
                            clear hK K
                            refine norm_ (a' := ?_) ?_ ?_
                            rotate_left
                            · show Act.put _ (some 46) _ = _
                              simp only [Act.put, List.setIfInBounds_toArray, List.set_cons_zero, List.set_cons_succ, i64_w, i32_w]
                              rfl
                            refine one_ (i := 9) (N := some 47) #[true, true, true, true, true, true, true, true, true, true, false, false] rfl rfl (one_of HT_.out (by kernel_rfl)) (by decide) (fun K hK => ?_)
                            refine Kd.R_append_rows_step k49 (w0 := w) w.heap.size (by rfl) (.tmp 40) (.tmp 46) 39 49 (.agg #[(.int .i64 0), (.int .i64 0)]) 16 rfl Try.underlying39 info49 rfl (by decide) (by omega) v338 y337 t344 _ _ _ (fun k_ => some k_ ≠ (.slice Ao50 x6_1.length co50 : Value).ownBlock ∧ some k_ ≠ (.slice Ao53 t344.length co53 : Value).ownBlock) (fun _ => False) rfl rfl ?aO ?aR (fun _ _ h => h) (fun _ h => h.elim) ?aF ?aB ?aS ?aL ?_
                            (case aR => repeat (first | exact (Kd.R_reads' HO346.out).2.2 | (with_reducible refine Kd.C_alloc ?_ _) | (with_reducible refine Kd.C_drewN ?_ _) | (with_reducible refine Kd.C_drew ?_)))
                            (case aB => exact (by repeat (first | (with_reducible first | exact HB.out | apply below_alloc | apply pw_below_drewN | apply below_drew1) | exact HB.out)))
                            (case aF => exact (fun k_ hk => ⟨Kd.fresh' (Kd.Q_lt (by (with_reducible repeat (first | apply Kd.Q_alloc | apply Kd.Q_drewN | apply Kd.Q_drew)); exact HO_6.out)) k_ hk, Kd.fresh' (Kd.R_lt (by (with_reducible repeat (first | apply Kd.R_alloc | apply Kd.R_drewN | apply Kd.R_drew)); exact HO346.out)) k_ hk⟩))
                            (case aO => exact (by (with_reducible repeat (first | apply Kd.R_alloc | apply Kd.R_drewN | apply Kd.R_drew)); exact HO339.out))
                            (case aS => exact (below_size (by repeat (first | (with_reducible first | exact HB.out | apply below_alloc | apply pw_below_drewN | apply below_drew1) | exact HB.out))))
                            (case aL => have := LMc41.out; omega)
                            intro v348 w52 ho hb hg hat
                            rw [← Ny347.out] at ho
                            have n0_ := Aside0.mk (Kd.R_over' (by (with_reducible repeat (first | apply Kd.R_alloc | apply Kd.R_drewN | apply Kd.R_drew)); exact HO_5.out) (Kd.R_typed (by (with_reducible repeat (first | apply Kd.R_alloc | apply Kd.R_drewN | apply Kd.R_drew)); exact HO339.out)) (by decide) hg)
                            have n1_ := Aside0.mk (Kd.Q_after (ok := (fun k_ => some k_ ≠ (.slice Ao53 t344.length co53 : Value).ownBlock)) (by (with_reducible repeat (first | apply Kd.Q_alloc | apply Kd.Q_drewN | apply Kd.Q_drew)); exact Kd.Q_mono HO_6.out (fun _ hk => ⟨hk.2, hk.1.2⟩)) hg hat)
                            have n2_ := Aside0.mk (Kd.R_over' (by (with_reducible repeat (first | apply Kd.R_alloc | apply Kd.R_drewN | apply Kd.R_drew)); exact HO333.out) (Kd.R_typed (by (with_reducible repeat (first | apply Kd.R_alloc | apply Kd.R_drewN | apply Kd.R_drew)); exact HO339.out)) (by decide) hg)
                            have n3_ := Aside0.mk (Kd.R_after (ok := (fun k_ => some k_ ≠ (.slice Ao50 x6_1.length co50 : Value).ownBlock)) (by (with_reducible repeat (first | apply Kd.R_alloc | apply Kd.R_drewN | apply Kd.R_drew)); exact Kd.R_mono HO346.out (fun _ hk => ⟨hk.1.2, hk.2⟩)) hg hat)
                            have n4_ := Aside0.mk (hb)
                            have n5_ := Aside0.mk (ho)
                            clear HO_5
                            clear HO_6
                            clear HO333
                            clear HO346
                            clear HB
                            clear HO339
                            have HO_5 := n0_
                            have HO_6 := n1_
                            have HO333 := n2_
                            have HO346 := n3_
                            have HB := n4_
                            have HO349 := n5_
                            clear n0_ n1_ n2_ n3_ n4_ n5_
                            clear ho hb hg hat
                            obtain ⟨Ao54, co54, eo54⟩ := Kd.R_slice HO349.out
                            (first | subst eo54 | (injection eo54 with f1_ f2_ f3_; have f4_ := f1_.symm; have f5_ := f3_.symm; clear f1_ f2_ f3_; subst f4_; subst f5_))
                            refine hK.out _ _ trivial (fun hHeld => ?_)
                            clear hK K
                            refine norm_ (a' := ?_) ?_ ?_
                            rotate_left
                            · show Act.put _ (some 47) _ = _
                              simp only [Act.put, List.setIfInBounds_toArray, List.set_cons_zero, List.set_cons_succ, i64_w, i32_w]
                              rfl
                            refine one_ (i := 10) (N := some 48) #[true, true, true, true, true, true, true, true, true, true, true, false] rfl rfl (one_of HT_.out (by kernel_rfl)) (by decide) (fun K hK => ?_)
                            refine goes_ Try.func33 (by kernel_rfl) rfl #[.slice Ao54 y347.length co54] (by rfl) rfl rfl (by (try simp only [List.map_toArray, List.map_cons, List.map_nil]); first | done | rfl | (simp only [List.length_drop, List.length_take]; rfl)) ?_
                            with_reducible refine (remontoirref02_Sort.calls kj2 _ _ y347 t350 _ ?side1 ?side2 A42.out).mono ?_
                            (case side1 => repeat (first | exact (Kd.R_reads' HO349.out).2.2 | (with_reducible refine Kd.C_alloc ?_ _) | (with_reducible refine Kd.C_drewN ?_ _) | (with_reducible refine Kd.C_drew ?_)))
                            (case side2 => exact (Kd.R_reads' HO349.out).2.1)
                            rintro e w55 ⟨v351, rfl, ho0, hb⟩
                            refine ⟨_, rfl, ?_⟩
                            have n0_ := Aside0.mk (Kd.R_below (by (with_reducible repeat (first | apply Kd.R_alloc | apply Kd.R_drewN | apply Kd.R_drew)); exact HO_5.out) hb)
                            have n1_ := Aside0.mk (Kd.Q_elder' (by (with_reducible repeat (first | apply Kd.Q_alloc | apply Kd.Q_drewN | apply Kd.Q_drew)); exact HO_6.out) (Kd.R_base ho0) hb)
                            have n2_ := Aside0.mk (Kd.R_below (by (with_reducible repeat (first | apply Kd.R_alloc | apply Kd.R_drewN | apply Kd.R_drew)); exact HO333.out) hb)
                            have n3_ := Aside0.mk (Kd.R_elder' (by (with_reducible repeat (first | apply Kd.R_alloc | apply Kd.R_drewN | apply Kd.R_drew)); exact HO346.out) (Kd.R_base ho0) hb)
                            have n4_ := Aside0.mk (Kd.R_elder' (by (with_reducible repeat (first | apply Kd.R_alloc | apply Kd.R_drewN | apply Kd.R_drew)); exact HO349.out) (Kd.R_base ho0) hb)
                            have n5_ := Aside0.mk (Kd.R_lower (Kd.R_new' (Kd.R_new' (Kd.R_new' ho0 (Kd.Q_lt (by (with_reducible repeat (first | apply Kd.Q_alloc | apply Kd.Q_drewN | apply Kd.Q_drew)); exact HO_6.out))) (Kd.R_lt (by (with_reducible repeat (first | apply Kd.R_alloc | apply Kd.R_drewN | apply Kd.R_drew)); exact HO346.out))) (Kd.R_lt (by (with_reducible repeat (first | apply Kd.R_alloc | apply Kd.R_drewN | apply Kd.R_drew)); exact HO349.out))) (below_size (by repeat (first | (with_reducible first | exact HB.out | apply below_alloc | apply pw_below_drewN | apply below_drew1) | exact HB.out))))
                            have n6_ := Aside0.mk (below_step (by repeat (first | (with_reducible first | exact HB.out | apply below_alloc | apply pw_below_drewN | apply below_drew1) | exact HB.out)) hb)
                            clear HO_5
                            clear HO_6
                            clear HO333
                            clear HO346
                            clear HO349
                            clear HB
                            have HO_5 := n0_
                            have HO_6 := n1_
                            have HO333 := n2_
                            have HO346 := n3_
                            have HO349 := n4_
                            have HO352 := n5_
                            have HB := n6_
                            clear n0_ n1_ n2_ n3_ n4_ n5_ n6_
                            (try clear hb)
                            (try clear hb2)
                            (try clear hk)
                            (try clear hi)
                            (try clear ho0)
                            refine hK.out _ _ trivial (fun hHeld => ?_)
                            clear hK K
                            refine norm_ (a' := ?_) ?_ ?_
                            rotate_left
                            · show Act.put _ (some 48) _ = _
                              simp only [Act.put, List.setIfInBounds_toArray, List.set_cons_zero, List.set_cons_succ, i64_w, i32_w]
                              rfl
                            refine pure_ (i := 11) (N := some 6) (v := ?_) (a' := ?_) #[true, true, true, true, true, true, true, true, true, true, true, true] rfl rfl (any_of HT_.out (by kernel_rfl)) (fun _ _ _ h => h) (Or.inl ⟨by rfl, ?_⟩) ?_ ?_
                            rotate_left
                            · intro w'
                              go_simp
                              with_reducible rfl
                            rotate_left
                            · simp only [Act.put, List.setIfInBounds_toArray, List.set_cons_zero, List.set_cons_succ, i64_w, i32_w]
                              rfl
                            refine done_ (done_of HT_.out (by kernel_rfl)) ?_
                            try go_wp2
                            go_roundg kj2
                            case measure => have := HK1.out; have := HJ2.out; omega
                            case rel => exact ⟨(t331), (t350), (wrap64 (x7_1 + 1)), (by first | rfl | (simp; done) | (simp [*]; done)), H', ⟨by have := HK1.out; have := HJ2.out; omega⟩, ⟨by (with_reducible repeat (first | apply Kd.R_alloc | apply Kd.R_drewN | apply Kd.R_drew)); exact Kd.R_mono HO333.out (fun _ hk => trivial)⟩, ⟨Kd.Q_of_R (by (with_reducible repeat (first | apply Kd.R_alloc | apply Kd.R_drewN | apply Kd.R_drew)); exact Kd.R_mono HO352.out (fun _ hk => trivial))⟩, ⟨by repeat (first | (with_reducible first | exact HB.out | apply below_alloc | apply pw_below_drewN | apply below_drew1) | exact HB.out)⟩⟩
                          · rw [if_neg c41] at H
                            exact absurd H (by simp)
                        · rw [if_neg c39] at H
                          exact absurd H (by simp)
                      · rw [if_neg c38] at H
                        exact absurd H (by simp)
                    · rw [if_neg c36] at H
                      exact absurd H (by simp)
                  · rw [if_neg c34] at H
                    exact absurd H (by simp)
              · rw [if_neg c8] at H
                exact absurd H (by simp)
            · rw [if_neg c7] at H
              exact absurd H (by simp)
          · replace c6 := Bool.eq_false_iff.mpr c6
            subst c6
            have H1 : ((remontoirlaw02_knows.f kj2).bind fun t328 => (some t328)) = some true := by rw [if_neg (show ¬ (false = true) by decide)] at H; exact H
            clear H
            have H := H1
            clear H1
            replace H := Option.bind_eq_some_iff.mp H
            obtain ⟨t328, A560, H⟩ := H
            replace H : (some t328) = some true := H
            have A56 := Aside0.mk A560
            clear A560
            have HR_ := Aside0.mk (Option.some.inj H)
            clear H
            go_wp2_with (first | ((with_reducible refine gate_callee (f := 24) rfl ?_); refine goesL_ (some 91) rfl rfl Try.func24 (by kernel_rfl) rfl #[] rfl (by (try simp only [List.map_toArray, List.map_cons, List.map_nil]); first | done | rfl | (simp only [List.length_drop, List.length_take]; rfl)) ?_; (with_reducible refine (remontoirlaw02_knows.calls kj2  t328 _ A56.out).mono ?_); rintro e w57 ⟨rfl, hb⟩; refine ⟨_, rfl, ?_⟩; have n0_ := Aside0.mk (Kd.R_below (by (with_reducible repeat (first | apply Kd.R_alloc | apply Kd.R_drewN | apply Kd.R_drew)); exact HO_5.out) hb); have n1_ := Aside0.mk (Kd.Q_below (by (with_reducible repeat (first | apply Kd.Q_alloc | apply Kd.Q_drewN | apply Kd.Q_drew)); exact HO_6.out) hb); have n2_ := Aside0.mk (below_step (by repeat (first | (with_reducible first | exact HB.out | apply below_alloc | apply pw_below_drewN | apply below_drew1) | exact HB.out)) hb); clear HO_5; clear HO_6; clear HB; have HO_5 := n0_; have HO_6 := n1_; have HB := n2_; clear n0_ n1_ n2_; (try clear hb); (try clear hb2); (try clear hk); (try clear hi)))
            all_goals go_ret
            all_goals exact ⟨by first | rfl | (rw [HR_.out] <;> rfl) | (simp [errW_none, errW_some] <;> rfl) | (simp [*, errW_none, errW_some] <;> rfl), by repeat (first | (with_reducible first | exact HB.out | apply below_alloc | apply pw_below_drewN | apply below_drew1) | exact HB.out)⟩

/-- The statement of remontoirlaw02_HeapRows over plain data. -/
def remontoirlaw02_HeapRows.Pure : Prop := ∀ (l0 : List (S34)) (l1 : List Bool), (l0.length ≤ 9223372036854775807 ∧ ∀ x ∈ l0, ((Lit.int .i64 x.f0).wf = true ∧ (Lit.int .i64 x.f1).wf = true)) → (l1.length ≤ 9223372036854775807 ∧ ∀ x ∈ l1, True) → ∃ k, remontoirlaw02_HeapRows.f k l0 l1 = some true

end Go.Proofs.Ytdfokaldjfpkhaa.FHeap
