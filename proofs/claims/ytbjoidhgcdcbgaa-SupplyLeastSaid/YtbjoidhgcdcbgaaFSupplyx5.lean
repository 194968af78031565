-- Written by the session (wip/tools) for this claim: functions of the program as Lean functions, and their contracts.
import Derived.Test.YtbjoidhgcdcbgaaFSupplyx0
namespace Go.Proofs.Ytbjoidhgcdcbgaa.FSupply
open Go.RowKit Go.Proofs.YtbjoidhgcdcbgaaW.PrintWords Go.Proofs.YtbjoidhgcdcbgaaW.PrintLast Go.Proofs.YtbjoidhgcdcbgaaW.PrintMore
attribute [local go_sem] max2_int min2_int max_two min_two max_three min_three max_four min_four   -- for this text's walks alone
set_option linter.unusedVariables false
set_option linter.unusedSimpArgs false

/-! ### remontoirref09_Least: function 22 -/
mutual
def remontoirref09_Least.l0 : Nat → List Bool → Int → Int → Int → Option (Int)
  | 0, _, _, _, _ => none
  | k + 1, x0, x1, x5, x6 => if x1 ≥ 1 then (remontoirref09_Least.j1 k x0 x1 x5 x6 (decide ((wrap64 (x6 + x1)) ≤ (x0.length : Int)))) else (remontoirref09_Least.j1 k x0 x1 x5 x6 false)
def remontoirref09_Least.j1 : Nat → List Bool → Int → Int → Int → Bool → Option (Int)
  | 0, _, _, _, _, _ => none
  | k + 1, x0, x1, x5, x6, x18 => if x18 = true then (remontoirref09_Least.l1 k x0 x1 x5 x6 0 x6) else (if x5 < 0 then (some 0) else (some x5))
def remontoirref09_Least.l1 : Nat → List Bool → Int → Int → Int → Int → Int → Option (Int)
  | 0, _, _, _, _, _, _ => none
  | k + 1, x0, x1, x5, x6, x7, x8 => if x8 < (wrap64 (x6 + x1)) then (if 0 ≤ x8 then (if x8 < (x0.length : Int) then (if rdOf false x0 x8 = true then (remontoirref09_Least.l1 k x0 x1 x5 x6 (wrap64 (x7 + 1)) (wrap64 (x8 + 1))) else (remontoirref09_Least.l1 k x0 x1 x5 x6 x7 (wrap64 (x8 + 1)))) else (none)) else (none)) else (if x5 < 0 then (remontoirref09_Least.l0 k x0 x1 x7 (wrap64 (x6 + 1))) else (if x7 < x5 then (remontoirref09_Least.l0 k x0 x1 x7 (wrap64 (x6 + 1))) else (remontoirref09_Least.l0 k x0 x1 x5 (wrap64 (x6 + 1)))))
end
def remontoirref09_Least.f (k : Nat) (l0 : List Bool) (a1 : Int) : Option (Int) := remontoirref09_Least.l0 k l0 a1 (-1) 0
theorem remontoirref09_Least.mono_l : ∀ k, (∀ y0 y1 y2 y3, LeO (remontoirref09_Least.l0 k y0 y1 y2 y3) (remontoirref09_Least.l0 (k + 1) y0 y1 y2 y3)) ∧ (∀ y0 y1 y2 y3 y4, LeO (remontoirref09_Least.j1 k y0 y1 y2 y3 y4) (remontoirref09_Least.j1 (k + 1) y0 y1 y2 y3 y4)) ∧ (∀ y0 y1 y2 y3 y4 y5, LeO (remontoirref09_Least.l1 k y0 y1 y2 y3 y4 y5) (remontoirref09_Least.l1 (k + 1) y0 y1 y2 y3 y4 y5))
  | 0 => ⟨fun _ _ _ _ r h => by simp [remontoirref09_Least.l0] at h, fun _ _ _ _ _ r h => by simp [remontoirref09_Least.j1] at h, fun _ _ _ _ _ _ r h => by simp [remontoirref09_Least.l1] at h⟩
  | k + 1 => by
    obtain ⟨ih0, ih1, ih2⟩ := remontoirref09_Least.mono_l k
    refine ⟨?_, ?_, ?_⟩
    · intro y0 y1 y2 y3
      unfold remontoirref09_Least.l0
      repeat' first
      | (with_reducible exact ih0 _ _ _ _)
      | (with_reducible exact ih1 _ _ _ _ _)
      | (with_reducible exact ih2 _ _ _ _ _ _)
      | (with_reducible exact LeO.refl _)
      | (with_reducible exact LeO.none _)
      | (with_reducible refine LeO.ite ?_ ?_)
      | (with_reducible refine LeO.bind ?_ (fun _ => ?_))
      | exact ih0 _ _ _ _
      | exact ih1 _ _ _ _ _
      | exact ih2 _ _ _ _ _ _
      | exact LeO.none _
      | refine LeO.ite ?_ ?_
      | refine LeO.bind ?_ (fun _ => ?_)
    · intro y0 y1 y2 y3 y4
      unfold remontoirref09_Least.j1
      repeat' first
      | (with_reducible exact ih0 _ _ _ _)
      | (with_reducible exact ih1 _ _ _ _ _)
      | (with_reducible exact ih2 _ _ _ _ _ _)
      | (with_reducible exact LeO.refl _)
      | (with_reducible exact LeO.none _)
      | (with_reducible refine LeO.ite ?_ ?_)
      | (with_reducible refine LeO.bind ?_ (fun _ => ?_))
      | exact ih0 _ _ _ _
      | exact ih1 _ _ _ _ _
      | exact ih2 _ _ _ _ _ _
      | exact LeO.none _
      | refine LeO.ite ?_ ?_
      | refine LeO.bind ?_ (fun _ => ?_)
    · intro y0 y1 y2 y3 y4 y5
      unfold remontoirref09_Least.l1
      repeat' first
      | (with_reducible exact ih0 _ _ _ _)
      | (with_reducible exact ih1 _ _ _ _ _)
      | (with_reducible exact ih2 _ _ _ _ _ _)
      | (with_reducible exact LeO.refl _)
      | (with_reducible exact LeO.none _)
      | (with_reducible refine LeO.ite ?_ ?_)
      | (with_reducible refine LeO.bind ?_ (fun _ => ?_))
      | exact ih0 _ _ _ _
      | exact ih1 _ _ _ _ _
      | exact ih2 _ _ _ _ _ _
      | exact LeO.none _
      | refine LeO.ite ?_ ?_
      | refine LeO.bind ?_ (fun _ => ?_)
theorem remontoirref09_Least.mono : ∀ a0 a1 k, LeO (remontoirref09_Least.f k a0 a1) (remontoirref09_Least.f (k + 1) a0 a1) := by
  intro a0 a1 k
  obtain ⟨ih0, ih1, ih2⟩ := remontoirref09_Least.mono_l k
  unfold remontoirref09_Least.f
  repeat' first
      | (with_reducible exact ih0 _ _ _ _)
      | (with_reducible exact ih1 _ _ _ _ _)
      | (with_reducible exact ih2 _ _ _ _ _ _)
      | (with_reducible exact LeO.refl _)
      | (with_reducible exact LeO.none _)
      | (with_reducible refine LeO.ite ?_ ?_)
      | (with_reducible refine LeO.bind ?_ (fun _ => ?_))
      | exact ih0 _ _ _ _
      | exact ih1 _ _ _ _ _
      | exact ih2 _ _ _ _ _ _
      | exact LeO.none _
      | refine LeO.ite ?_ ?_
      | refine LeO.bind ?_ (fun _ => ?_)
set_option maxHeartbeats 8000000 in
set_option maxRecDepth 100000 in
theorem remontoirref09_Least.calls (k : Nat) (A0 : Option Addr) (c0 : Nat) (l0 : List Bool) (a1 : Int) (r : Int) (w : World) (hr0 : Kd.C Kd.bool w A0 l0.length l0) (hc0 : l0.length ≤ c0) (h : remontoirref09_Least.f k l0 a1 = some r) :
    Calls Try.prog 22 #[.slice A0 l0.length c0, .int .i64 a1] w fun e w' => e = .returned (.int .i64 r) ∧ Drawn0 w w' := by
  have HR0 := Aside0.mk hr0
  have HC0 := Aside0.mk hc0
  clear hr0 hc0
  have H : (remontoirref09_Least.l0 k l0 a1 (-1) 0) = some r := h
  clear h
  have H' := Aside0.mk H
  clear H
  go_enter Try.func22, Try.ntmps22
  go_wp2
  go_loopg [5, 6] k (fun kq v5 v6 w' => ∃ (x5_1 : Int) (x6_1 : Int), v5 = .int .i64 x5_1 ∧ v6 = .int .i64 x6_1 ∧ Aside0 (remontoirref09_Least.l0 kq l0 a1 x5_1 x6_1 = some r) ∧ Aside0 (kq ≤ k) ∧ Drawn0 w w')
  case atStart => exact ⟨((-1)), (0), (by first | rfl | (simp; done) | (simp [*]; done)), (by first | rfl | (simp; done) | (simp [*]; done)), H', ⟨Nat.le_refl _⟩, by repeat (first | exact Drawn0.refl _ | apply Drawn0.step)⟩
  case round =>
    clear H'
    try clear c2
    try clear p2
    obtain ⟨x5_1, x6_1, rfl, rfl, HA, HK1, ⟨m1, rfl⟩⟩ := hrel
    cases gk with
    | zero => exact absurd HA.out (by simp [remontoirref09_Least.l0])
    | succ k1 =>
      have H := HA.out
      clear HA
      simp only [remontoirref09_Least.l0] at H
      have HC3 := Aside0.mk H
      clear H
      go_upto_region 3 with (fail)
      go_cut [18] (fun v18 wc => ∃ (kq : Nat) (x18_2 : Bool), v18 = .bool x18_2 ∧ Aside0 (remontoirref09_Least.j1 kq l0 a1 x5_1 x6_1 x18_2 = some r) ∧ Aside0 (kq ≤ k1) ∧ Drawn0 w wc)
      case first =>
        have H := HC3.out
        clear HC3
        by_cases c4 : a1 ≥ 1
        · rw [if_pos c4] at H
          have c4b0 : decide (1 ≤ a1) = true := decide_eq_true c4
          clear c4
          (first | rw [c4b0] | (simp only [i64_w, i32_w]; rw [c4b0]) | skip)
          have H' := Aside0.mk H
          clear H
          go_wp2
          go_meet
          case rel => exact ⟨_, (decide ((wrap64 (x6_1 + a1)) ≤ (l0.length : Int))), (by first | rfl | (simp; done) | (simp [*]; done)), H', ⟨by have := HK1.out; first | omega | exact Nat.le_refl _⟩, by repeat (first | exact Drawn0.refl _ | apply Drawn0.step)⟩
        · rw [if_neg c4] at H
          have c4b0 : decide (1 ≤ a1) = false := decide_eq_false c4
          clear c4
          (first | rw [c4b0] | (simp only [i64_w, i32_w]; rw [c4b0]) | skip)
          have H' := Aside0.mk H
          clear H
          go_wp2
          go_meet
          case rel => exact ⟨_, (false), (by first | rfl | (simp; done) | (simp [*]; done)), H', ⟨by have := HK1.out; first | omega | exact Nat.le_refl _⟩, by repeat (first | exact Drawn0.refl _ | apply Drawn0.step)⟩
      case rest =>
        clear HC3
        try clear c2
        try clear p2
        try clear c4
        try clear c4b0
        try clear p2
        obtain ⟨kq, x18_2, rfl, HA, HJ2, ⟨mc2, rfl⟩⟩ := hcut
        cases kq with
        | zero => exact absurd HA.out (by simp [remontoirref09_Least.j1])
        | succ kj2 =>
          have H := HA.out
          clear HA
          simp only [remontoirref09_Least.j1] at H
          by_cases c5 : x18_2 = true
          · subst c5
            have H1 : (remontoirref09_Least.l1 kj2 l0 a1 x5_1 x6_1 0 x6_1) = some r := by rw [if_pos rfl] at H; exact H
            clear H
            have H := H1
            clear H1
            have H' := Aside0.mk H
            clear H
            go_wp2
            go_loopg [7, 8] kj2 (fun kq v7 v8 w' => ∃ (x7_3 : Int) (x8_3 : Int), v7 = .int .i64 x7_3 ∧ v8 = .int .i64 x8_3 ∧ Aside0 (remontoirref09_Least.l1 kq l0 a1 x5_1 x6_1 x7_3 x8_3 = some r) ∧ Aside0 (kq ≤ kj2) ∧ Drawn0 w w')
            case atStart => exact ⟨(0), (x6_1), (by first | rfl | (simp; done) | (simp [*]; done)), (by first | rfl | (simp; done) | (simp [*]; done)), H', ⟨Nat.le_refl _⟩, by repeat (first | exact Drawn0.refl _ | apply Drawn0.step)⟩
            case round =>
              clear H'
              try clear c2
              try clear p2
              try clear c4
              try clear c4b0
              try clear c5
              try clear p2
              obtain ⟨x7_3, x8_3, rfl, rfl, HA, HK3, ⟨m3, rfl⟩⟩ := hrel
              cases gk with
              | zero => exact absurd HA.out (by simp [remontoirref09_Least.l1])
              | succ k3 =>
                have H := HA.out
                clear HA
                simp only [remontoirref09_Least.l1] at H
                by_cases c6 : x8_3 < (wrap64 (x6_1 + a1))
                · rw [if_pos c6] at H
                  have c6b0 : decide (x8_3 < (wrap64 (x6_1 + a1))) = true := decide_eq_true c6
                  clear c6
                  by_cases c7 : 0 ≤ x8_3
                  · rw [if_pos c7] at H
                    have c7b0 : decide (0 ≤ x8_3) = true := decide_eq_true c7
                    clear c7
                    by_cases c8 : x8_3 < (l0.length : Int)
                    · rw [if_pos c8] at H
                      have c8b0 : decide (x8_3 < (l0.length : Int)) = true := decide_eq_true c8
                      clear c8
                      obtain ⟨bq9, hbq9⟩ : ∃ b_ : Bool, b_ = (rdOf false l0 x8_3) := ⟨_, rfl⟩
                      replace H : (if bq9 = true then (remontoirref09_Least.l1 k3 l0 a1 x5_1 x6_1 (wrap64 (x7_3 + 1)) (wrap64 (x8_3 + 1))) else (remontoirref09_Least.l1 k3 l0 a1 x5_1 x6_1 x7_3 (wrap64 (x8_3 + 1)))) = some r := by rw [← hbq9] at H; exact H
                      have Nbq9 := Aside0.mk hbq9
                      clear hbq9
                      by_cases c10 : bq9 = true
                      · subst c10
                        have H1 : (remontoirref09_Least.l1 k3 l0 a1 x5_1 x6_1 (wrap64 (x7_3 + 1)) (wrap64 (x8_3 + 1))) = some r := by rw [if_pos rfl] at H; exact H
                        clear H
                        have H := H1
                        clear H1
                        have H' := Aside0.mk H
                        clear H
                        have p149 : 0 ≤ (x8_3 : Int) := of_decide_eq_true (by first | (with_reducible assumption) | assumption)
                        have q149 : x8_3 < (l0.length : Int) := of_decide_eq_true (by first | (with_reducible assumption) | assumption)
                        obtain ⟨ad149, e149, hx149_0⟩ := Kd.at_bool HR0.out x8_3 p149 q149
                        (try rw [← Nbq9.out] at hx149_0)
                        cases e149
                        replace p149 := eq_true p149
                        replace q149 := eq_true q149
                        go_wp2
                        go_roundg k3
                        case measure => have := HK1.out; have := HJ2.out; have := HK3.out; omega
                        case rel => exact ⟨(wrap64 (x7_3 + 1)), (wrap64 (x8_3 + 1)), (by first | rfl | (simp; done) | (simp [*]; done)), (by first | rfl | (simp; done) | (simp [*]; done)), H', ⟨by have := HK1.out; have := HJ2.out; have := HK3.out; omega⟩, by repeat (first | exact Drawn0.refl _ | apply Drawn0.step)⟩
                      · replace c10 := Bool.eq_false_iff.mpr c10
                        subst c10
                        have H1 : (remontoirref09_Least.l1 k3 l0 a1 x5_1 x6_1 x7_3 (wrap64 (x8_3 + 1))) = some r := by rw [if_neg (show ¬ (false = true) by decide)] at H; exact H
                        clear H
                        have H := H1
                        clear H1
                        have H' := Aside0.mk H
                        clear H
                        have p149 : 0 ≤ (x8_3 : Int) := of_decide_eq_true (by first | (with_reducible assumption) | assumption)
                        have q149 : x8_3 < (l0.length : Int) := of_decide_eq_true (by first | (with_reducible assumption) | assumption)
                        obtain ⟨ad149, e149, hx149_0⟩ := Kd.at_bool HR0.out x8_3 p149 q149
                        (try rw [← Nbq9.out] at hx149_0)
                        cases e149
                        replace p149 := eq_true p149
                        replace q149 := eq_true q149
                        go_wp2
                        go_roundg k3
                        case measure => have := HK1.out; have := HJ2.out; have := HK3.out; omega
                        case rel => exact ⟨(x7_3), (wrap64 (x8_3 + 1)), (by first | rfl | (simp; done) | (simp [*]; done)), (by first | rfl | (simp; done) | (simp [*]; done)), H', ⟨by have := HK1.out; have := HJ2.out; have := HK3.out; omega⟩, by repeat (first | exact Drawn0.refl _ | apply Drawn0.step)⟩
                    · rw [if_neg c8] at H
                      exact absurd H (by simp)
                  · rw [if_neg c7] at H
                    exact absurd H (by simp)
                · rw [if_neg c6] at H
                  have c6b0 : decide (x8_3 < (wrap64 (x6_1 + a1))) = false := decide_eq_false c6
                  clear c6
                  by_cases c11 : x5_1 < 0
                  · rw [if_pos c11] at H
                    have c11b0 : decide (x5_1 < 0) = true := decide_eq_true c11
                    clear c11
                    have H' := Aside0.mk H
                    clear H
                    go_wp2
                    go_roundg k3
                    case measure => have := HK1.out; have := HJ2.out; have := HK3.out; omega
                    case rel => exact ⟨(x7_3), (wrap64 (x6_1 + 1)), (by first | rfl | (simp; done) | (simp [*]; done)), (by first | rfl | (simp; done) | (simp [*]; done)), H', ⟨by have := HK1.out; have := HJ2.out; have := HK3.out; omega⟩, by repeat (first | exact Drawn0.refl _ | apply Drawn0.step)⟩
                  · rw [if_neg c11] at H
                    have c11b0 : decide (x5_1 < 0) = false := decide_eq_false c11
                    clear c11
                    by_cases c12 : x7_3 < x5_1
                    · rw [if_pos c12] at H
                      have c12b0 : decide (x7_3 < x5_1) = true := decide_eq_true c12
                      clear c12
                      have H' := Aside0.mk H
                      clear H
                      go_wp2
                      go_roundg k3
                      case measure => have := HK1.out; have := HJ2.out; have := HK3.out; omega
                      case rel => exact ⟨(x7_3), (wrap64 (x6_1 + 1)), (by first | rfl | (simp; done) | (simp [*]; done)), (by first | rfl | (simp; done) | (simp [*]; done)), H', ⟨by have := HK1.out; have := HJ2.out; have := HK3.out; omega⟩, by repeat (first | exact Drawn0.refl _ | apply Drawn0.step)⟩
                    · rw [if_neg c12] at H
                      have c12b0 : decide (x7_3 < x5_1) = false := decide_eq_false c12
                      clear c12
                      have H' := Aside0.mk H
                      clear H
                      go_wp2
                      go_roundg k3
                      case measure => have := HK1.out; have := HJ2.out; have := HK3.out; omega
                      case rel => exact ⟨(x5_1), (wrap64 (x6_1 + 1)), (by first | rfl | (simp; done) | (simp [*]; done)), (by first | rfl | (simp; done) | (simp [*]; done)), H', ⟨by have := HK1.out; have := HJ2.out; have := HK3.out; omega⟩, by repeat (first | exact Drawn0.refl _ | apply Drawn0.step)⟩
          · replace c5 := Bool.eq_false_iff.mpr c5
            subst c5
            have H1 : (if x5_1 < 0 then (some 0) else (some x5_1)) = some r := by rw [if_neg (show ¬ (false = true) by decide)] at H; exact H
            clear H
            have H := H1
            clear H1
            by_cases c13 : x5_1 < 0
            · rw [if_pos c13] at H
              have c13b0 : decide (x5_1 < 0) = true := decide_eq_true c13
              clear c13
              obtain rfl := Option.some.inj H
              go_wp2
              go_ret
              exact ⟨by first | rfl | (simp; done) | (simp [*]; done), by repeat (first | exact Drawn0.refl _ | apply Drawn0.step)⟩
            · rw [if_neg c13] at H
              have c13b0 : decide (x5_1 < 0) = false := decide_eq_false c13
              clear c13
              obtain rfl := Option.some.inj H
              go_wp2
              go_ret
              exact ⟨by first | rfl | (simp; done) | (simp [*]; done), by repeat (first | exact Drawn0.refl _ | apply Drawn0.step)⟩

end Go.Proofs.Ytbjoidhgcdcbgaa.FSupply
