-- Written by the session (wip/tools) for this claim: functions of the program as Lean functions, and their contracts.
import Derived.Test.YtbjoidhgcdcbgaaFSupplyx0
import Derived.Test.YtbjoidhgcdcbgaaFSupplyx1
namespace Go.Proofs.Ytbjoidhgcdcbgaa.FSupply
open Go.RowKit Go.Proofs.YtbjoidhgcdcbgaaW.PrintWords Go.Proofs.YtbjoidhgcdcbgaaW.PrintLast Go.Proofs.YtbjoidhgcdcbgaaW.PrintMore
attribute [local go_sem] max2_int min2_int max_two min_two max_three min_three max_four min_four   -- for this text's walks alone
set_option linter.unusedVariables false
set_option linter.unusedSimpArgs false

/-! ### supply_Least: function 21 -/
mutual
def supply_Least.j0 : Nat → List Bool → Int → Bool → Option (Int)
  | 0, _, _, _ => none
  | k + 1, x0, x1, x15 => if x15 = true then (some 0) else (if 0 ≤ x1 then (if x1 ≤ (x0.length : Int) then ((supply_count.f k (x0.take (x1 : Int).toNat)).bind fun t110 => (supply_Least.l0 k x0 x1 t110 t110 x1)) else (none)) else (none))
def supply_Least.l0 : Nat → List Bool → Int → Int → Int → Int → Option (Int)
  | 0, _, _, _, _, _ => none
  | k + 1, x0, x1, x5, x6, x7 => if x7 < (x0.length : Int) then (if 0 ≤ x7 then (if rdOf false x0 x7 = true then (if 0 ≤ (wrap64 (x7 - x1)) then (if (wrap64 (x7 - x1)) < (x0.length : Int) then (if rdOf false x0 (wrap64 (x7 - x1)) = true then (supply_Least.l0 k x0 x1 (wrap64 ((wrap64 (x5 + 1)) - 1)) (mn x6 (wrap64 ((wrap64 (x5 + 1)) - 1))) (wrap64 (x7 + 1))) else (supply_Least.l0 k x0 x1 (wrap64 (x5 + 1)) (mn x6 (wrap64 (x5 + 1))) (wrap64 (x7 + 1)))) else (none)) else (none)) else (if 0 ≤ (wrap64 (x7 - x1)) then (if (wrap64 (x7 - x1)) < (x0.length : Int) then (if rdOf false x0 (wrap64 (x7 - x1)) = true then (supply_Least.l0 k x0 x1 (wrap64 (x5 - 1)) (mn x6 (wrap64 (x5 - 1))) (wrap64 (x7 + 1))) else (supply_Least.l0 k x0 x1 x5 (mn x6 x5) (wrap64 (x7 + 1)))) else (none)) else (none))) else (none)) else (some x6)
end
def supply_Least.f (k : Nat) (l0 : List Bool) (a1 : Int) : Option (Int) := if a1 < 1 then (supply_Least.j0 k l0 a1 true) else (supply_Least.j0 k l0 a1 (decide (a1 > (l0.length : Int))))
theorem supply_Least.mono_l : ∀ k, (∀ y0 y1 y2, LeO (supply_Least.j0 k y0 y1 y2) (supply_Least.j0 (k + 1) y0 y1 y2)) ∧ (∀ y0 y1 y2 y3 y4, LeO (supply_Least.l0 k y0 y1 y2 y3 y4) (supply_Least.l0 (k + 1) y0 y1 y2 y3 y4))
  | 0 => ⟨fun _ _ _ r h => by simp [supply_Least.j0] at h, fun _ _ _ _ _ r h => by simp [supply_Least.l0] at h⟩
  | k + 1 => by
    obtain ⟨ih0, ih1⟩ := supply_Least.mono_l k
    refine ⟨?_, ?_⟩
    · intro y0 y1 y2
      unfold supply_Least.j0
      repeat' first
      | (with_reducible exact ih0 _ _ _)
      | (with_reducible exact ih1 _ _ _ _ _)
      | (with_reducible exact supply_count.mono _ _)
      | (with_reducible exact LeO.refl _)
      | (with_reducible exact LeO.none _)
      | (with_reducible refine LeO.ite ?_ ?_)
      | (with_reducible refine LeO.bind ?_ (fun _ => ?_))
      | exact ih0 _ _ _
      | exact ih1 _ _ _ _ _
      | exact supply_count.mono _ _
      | exact LeO.none _
      | refine LeO.ite ?_ ?_
      | refine LeO.bind ?_ (fun _ => ?_)
    · intro y0 y1 y2 y3 y4
      unfold supply_Least.l0
      repeat' first
      | (with_reducible exact ih0 _ _ _)
      | (with_reducible exact ih1 _ _ _ _ _)
      | (with_reducible exact supply_count.mono _ _)
      | (with_reducible exact LeO.refl _)
      | (with_reducible exact LeO.none _)
      | (with_reducible refine LeO.ite ?_ ?_)
      | (with_reducible refine LeO.bind ?_ (fun _ => ?_))
      | exact ih0 _ _ _
      | exact ih1 _ _ _ _ _
      | exact supply_count.mono _ _
      | exact LeO.none _
      | refine LeO.ite ?_ ?_
      | refine LeO.bind ?_ (fun _ => ?_)
theorem supply_Least.mono : ∀ a0 a1 k, LeO (supply_Least.f k a0 a1) (supply_Least.f (k + 1) a0 a1) := by
  intro a0 a1 k
  obtain ⟨ih0, ih1⟩ := supply_Least.mono_l k
  unfold supply_Least.f
  repeat' first
      | (with_reducible exact ih0 _ _ _)
      | (with_reducible exact ih1 _ _ _ _ _)
      | (with_reducible exact supply_count.mono _ _)
      | (with_reducible exact LeO.refl _)
      | (with_reducible exact LeO.none _)
      | (with_reducible refine LeO.ite ?_ ?_)
      | (with_reducible refine LeO.bind ?_ (fun _ => ?_))
      | exact ih0 _ _ _
      | exact ih1 _ _ _ _ _
      | exact supply_count.mono _ _
      | exact LeO.none _
      | refine LeO.ite ?_ ?_
      | refine LeO.bind ?_ (fun _ => ?_)
set_option maxHeartbeats 8000000 in
set_option maxRecDepth 100000 in
theorem supply_Least.calls (k : Nat) (A0 : Option Addr) (c0 : Nat) (l0 : List Bool) (a1 : Int) (r : Int) (w : World) (hr0 : Kd.C Kd.bool w A0 l0.length l0) (hc0 : l0.length ≤ c0) (h : supply_Least.f k l0 a1 = some r) :
    Calls Try.prog 21 #[.slice A0 l0.length c0, .int .i64 a1] w fun e w' => e = .returned (.int .i64 r) ∧ Below w.heap.size w w' := by
  have HR0 := Aside0.mk hr0
  have HC0 := Aside0.mk hc0
  clear hr0 hc0
  have HB := Aside0.mk (Below.refl w.heap.size w)
  have H : (if a1 < 1 then (supply_Least.j0 k l0 a1 true) else (supply_Least.j0 k l0 a1 (decide (a1 > (l0.length : Int))))) = some r := h
  clear h
  have HC3 := Aside0.mk H
  clear H
  go_enter Try.func21, Try.ntmps21
  go_upto_region 1 with (fail)
  go_cut [15] (fun v15 wc => ∃ (kq : Nat) (x15_2 : Bool), v15 = .bool x15_2 ∧ Aside0 (supply_Least.j0 kq l0 a1 x15_2 = some r) ∧ Aside0 (kq ≤ k) ∧ Aside0 (Below w.heap.size w wc))
  case first =>
    have H := HC3.out
    clear HC3
    by_cases c4 : a1 < 1
    · rw [if_pos c4] at H
      have c4b0 : decide (a1 < 1) = true := decide_eq_true c4
      clear c4
      (first | rw [c4b0] | (simp only [i64_w, i32_w]; rw [c4b0]) | skip)
      have H' := Aside0.mk H
      clear H
      go_wp2
      go_meet
      case rel => exact ⟨_, (true), (by first | rfl | (simp; done) | (simp [*]; done)), H', ⟨by first | omega | exact Nat.le_refl _⟩, ⟨by repeat (first | (with_reducible first | exact HB.out | apply below_alloc | apply pw_below_drewN | apply below_drew1) | exact HB.out)⟩⟩
    · rw [if_neg c4] at H
      have c4b0 : decide (a1 < 1) = false := decide_eq_false c4
      clear c4
      (first | rw [c4b0] | (simp only [i64_w, i32_w]; rw [c4b0]) | skip)
      have H' := Aside0.mk H
      clear H
      go_wp2
      go_meet
      case rel => exact ⟨_, (decide (a1 > (l0.length : Int))), (by first | rfl | (simp; done) | (simp [*]; done)), H', ⟨by first | omega | exact Nat.le_refl _⟩, ⟨by repeat (first | (with_reducible first | exact HB.out | apply below_alloc | apply pw_below_drewN | apply below_drew1) | exact HB.out)⟩⟩
  case rest =>
    clear HC3
    try clear c2
    try clear p2
    try clear c4
    try clear c4b0
    obtain ⟨kq, x15_2, rfl, HA, HJ2, HB⟩ := hcut
    cases kq with
    | zero => exact absurd HA.out (by simp [supply_Least.j0])
    | succ kj2 =>
      have H := HA.out
      clear HA
      simp only [supply_Least.j0] at H
      by_cases c5 : x15_2 = true
      · subst c5
        have H1 : (some 0) = some r := by rw [if_pos rfl] at H; exact H
        clear H
        have H := H1
        clear H1
        obtain rfl := Option.some.inj H
        go_wp2
        go_ret
        exact ⟨by first | rfl | (simp [errW_none, errW_some] <;> rfl) | (simp [*, errW_none, errW_some] <;> rfl), by repeat (first | (with_reducible first | exact HB.out | apply below_alloc | apply pw_below_drewN | apply below_drew1) | exact HB.out)⟩
      · replace c5 := Bool.eq_false_iff.mpr c5
        subst c5
        have H1 : (if 0 ≤ a1 then (if a1 ≤ (l0.length : Int) then ((supply_count.f kj2 (l0.take (a1 : Int).toNat)).bind fun t110 => (supply_Least.l0 kj2 l0 a1 t110 t110 a1)) else (none)) else (none)) = some r := by rw [if_neg (show ¬ (false = true) by decide)] at H; exact H
        clear H
        have H := H1
        clear H1
        by_cases c6 : 0 ≤ a1
        · rw [if_pos c6] at H
          have c6b0 := eq_true c6
          have c6b1 : decide (0 ≤ a1) = true := decide_eq_true c6
          clear c6
          by_cases c7 : a1 ≤ (l0.length : Int)
          · rw [if_pos c7] at H
            have c7b0 := eq_true c7
            have c7b1 : decide (a1 ≤ (l0.length : Int)) = true := decide_eq_true c7
            clear c7
            replace H := Option.bind_eq_some_iff.mp H
            obtain ⟨t110, A80, H⟩ := H
            replace H : (supply_Least.l0 kj2 l0 a1 t110 t110 a1) = some r := H
            have A8 := Aside0.mk A80
            clear A80
            have H' := Aside0.mk H
            clear H
            obtain ⟨i09, hi09, _, hsz9, _⟩ := info_parts info4
            obtain ⟨hcut9, hA9, hC9⟩ := print_take_of (P := Try.prog) Value.bool false 31 4 .i64 Try.underlying31 hi09 hsz9 A0 c0 l0 a1 (of_decide_eq_true (by first | (with_reducible assumption) | assumption)) (of_decide_eq_true (by first | (with_reducible assumption) | assumption)) HC0.out
            have HR109 := Aside0.mk (Kd.C_of_reads (h1 := fun _ => rfl) (hA9 _ (Kd.reads_of_C HR0.out)))
            have HC109 := Aside0.mk hC9
            clear hA9 hC9 hi09 hsz9
            go_wp2_with (first | ((with_reducible refine gate_callee (f := 38) rfl ?_); refine goesL_ (some 19) rfl rfl Try.func38 (by kernel_rfl) rfl #[.slice A0 (l0.take (a1 : Int).toNat).length c0] rfl (by (try simp only [List.map_toArray, List.map_cons, List.map_nil]); first | done | (rw [show (l0.take (a1 : Int).toNat).length = a1.toNat from (by rw [List.length_take]; have h_ : (a1 : Int) ≤ (l0.length : Int) := of_decide_eq_true (by first | (with_reducible assumption) | assumption); omega)] <;> rfl) | rfl | (simp only [List.length_drop, List.length_take]; rfl)) ?_; (with_reducible refine (supply_count.calls kj2 _ _ (l0.take (a1 : Int).toNat) t110 _ ?side1 ?side2 A8.out).mono ?_); (case side1 => repeat (first | exact (Kd.C_below HR109.out HB.out) | (with_reducible refine Kd.C_alloc ?_ _) | (with_reducible refine Kd.C_drewN ?_ _) | (with_reducible refine Kd.C_drew ?_))); (case side2 => exact HC109.out); rintro e w' ⟨rfl, ⟨nd, rfl⟩⟩; refine ⟨_, rfl, ?_⟩))
            go_loopg [5, 6, 7] kj2 (fun kq v5 v6 v7 w' => ∃ (x5_2 : Int) (x6_2 : Int) (x7_2 : Int), v5 = .int .i64 x5_2 ∧ v6 = .int .i64 x6_2 ∧ v7 = .int .i64 x7_2 ∧ Aside0 (supply_Least.l0 kq l0 a1 x5_2 x6_2 x7_2 = some r) ∧ Aside0 (kq ≤ kj2) ∧ Aside0 (Below w.heap.size w w'))
            case atStart => exact ⟨(t110), (t110), (a1), (by first | rfl | (simp; done) | (simp [*]; done)), (by first | rfl | (simp; done) | (simp [*]; done)), (by first | rfl | (simp; done) | (simp [*]; done)), H', ⟨Nat.le_refl _⟩, ⟨by repeat (first | (with_reducible first | exact HB.out | apply below_alloc | apply pw_below_drewN | apply below_drew1) | exact HB.out)⟩⟩
            case round =>
              clear H'
              try clear c2
              try clear p2
              try clear c3
              try clear c4
              try clear c4b0
              try clear c5
              try clear c6
              try clear c6b0
              try clear c6b1
              try clear c7
              try clear c7b0
              try clear c7b1
              try clear p2
              obtain ⟨x5_2, x6_2, x7_2, rfl, rfl, rfl, HA, HK2, HB⟩ := hrel
              cases gk with
              | zero => exact absurd HA.out (by simp [supply_Least.l0])
              | succ k2 =>
                have H := HA.out
                clear HA
                simp only [supply_Least.l0] at H
                by_cases c10 : x7_2 < (l0.length : Int)
                · rw [if_pos c10] at H
                  have c10b0 : decide (x7_2 < (l0.length : Int)) = true := decide_eq_true c10
                  clear c10
                  by_cases c11 : 0 ≤ x7_2
                  · rw [if_pos c11] at H
                    have c11b0 : decide (0 ≤ x7_2) = true := decide_eq_true c11
                    clear c11
                    obtain ⟨bq12, hbq12⟩ : ∃ b_ : Bool, b_ = (rdOf false l0 x7_2) := ⟨_, rfl⟩
                    replace H : (if bq12 = true then (if 0 ≤ (wrap64 (x7_2 - a1)) then (if (wrap64 (x7_2 - a1)) < (l0.length : Int) then (if rdOf false l0 (wrap64 (x7_2 - a1)) = true then (supply_Least.l0 k2 l0 a1 (wrap64 ((wrap64 (x5_2 + 1)) - 1)) (mn x6_2 (wrap64 ((wrap64 (x5_2 + 1)) - 1))) (wrap64 (x7_2 + 1))) else (supply_Least.l0 k2 l0 a1 (wrap64 (x5_2 + 1)) (mn x6_2 (wrap64 (x5_2 + 1))) (wrap64 (x7_2 + 1)))) else (none)) else (none)) else (if 0 ≤ (wrap64 (x7_2 - a1)) then (if (wrap64 (x7_2 - a1)) < (l0.length : Int) then (if rdOf false l0 (wrap64 (x7_2 - a1)) = true then (supply_Least.l0 k2 l0 a1 (wrap64 (x5_2 - 1)) (mn x6_2 (wrap64 (x5_2 - 1))) (wrap64 (x7_2 + 1))) else (supply_Least.l0 k2 l0 a1 x5_2 (mn x6_2 x5_2) (wrap64 (x7_2 + 1)))) else (none)) else (none))) = some r := by rw [← hbq12] at H; exact H
                    have Nbq12 := Aside0.mk hbq12
                    clear hbq12
                    by_cases c13 : bq12 = true
                    · subst c13
                      have H1 : (if 0 ≤ (wrap64 (x7_2 - a1)) then (if (wrap64 (x7_2 - a1)) < (l0.length : Int) then (if rdOf false l0 (wrap64 (x7_2 - a1)) = true then (supply_Least.l0 k2 l0 a1 (wrap64 ((wrap64 (x5_2 + 1)) - 1)) (mn x6_2 (wrap64 ((wrap64 (x5_2 + 1)) - 1))) (wrap64 (x7_2 + 1))) else (supply_Least.l0 k2 l0 a1 (wrap64 (x5_2 + 1)) (mn x6_2 (wrap64 (x5_2 + 1))) (wrap64 (x7_2 + 1)))) else (none)) else (none)) = some r := by rw [if_pos rfl] at H; exact H
                      clear H
                      have H := H1
                      clear H1
                      obtain ⟨ji14, hji14⟩ : ∃ j_ : Int, (wrap64 (x7_2 - a1)) = j_ := ⟨_, rfl⟩
                      replace H : (if 0 ≤ (ji14) then (if (ji14) < (l0.length : Int) then (if rdOf false l0 (ji14) = true then (supply_Least.l0 k2 l0 a1 (wrap64 ((wrap64 (x5_2 + 1)) - 1)) (mn x6_2 (wrap64 ((wrap64 (x5_2 + 1)) - 1))) (wrap64 (x7_2 + 1))) else (supply_Least.l0 k2 l0 a1 (wrap64 (x5_2 + 1)) (mn x6_2 (wrap64 (x5_2 + 1))) (wrap64 (x7_2 + 1)))) else (none)) else (none)) = some r := by first | (rw [hji14] at H; exact H) | (simp only [hji14] at H ⊢; exact H)
                      have hji14w : (IntKind.i64.wrap (x7_2 - a1)) = ji14 := (i64_w _).trans hji14
                      by_cases c15 : 0 ≤ (ji14)
                      · rw [if_pos c15] at H
                        have c15b0 : decide (0 ≤ (ji14)) = true := decide_eq_true c15
                        clear c15
                        by_cases c16 : (ji14) < (l0.length : Int)
                        · rw [if_pos c16] at H
                          have c16b0 : decide ((ji14) < (l0.length : Int)) = true := decide_eq_true c16
                          clear c16
                          obtain ⟨bq17, hbq17⟩ : ∃ b_ : Bool, b_ = (rdOf false l0 (ji14)) := ⟨_, rfl⟩
                          replace H : (if bq17 = true then (supply_Least.l0 k2 l0 a1 (wrap64 ((wrap64 (x5_2 + 1)) - 1)) (mn x6_2 (wrap64 ((wrap64 (x5_2 + 1)) - 1))) (wrap64 (x7_2 + 1))) else (supply_Least.l0 k2 l0 a1 (wrap64 (x5_2 + 1)) (mn x6_2 (wrap64 (x5_2 + 1))) (wrap64 (x7_2 + 1)))) = some r := by rw [← hbq17] at H; exact H
                          have Nbq17 := Aside0.mk hbq17
                          clear hbq17
                          by_cases c18 : bq17 = true
                          · subst c18
                            have H1 : (supply_Least.l0 k2 l0 a1 (wrap64 ((wrap64 (x5_2 + 1)) - 1)) (mn x6_2 (wrap64 ((wrap64 (x5_2 + 1)) - 1))) (wrap64 (x7_2 + 1))) = some r := by rw [if_pos rfl] at H; exact H
                            clear H
                            have H := H1
                            clear H1
                            obtain ⟨ji19, hji19⟩ : ∃ j_ : Int, (mn x6_2 (wrap64 ((wrap64 (x5_2 + 1)) - 1))) = j_ := ⟨_, rfl⟩
                            replace H : (supply_Least.l0 k2 l0 a1 (wrap64 ((wrap64 (x5_2 + 1)) - 1)) ji19 (wrap64 (x7_2 + 1))) = some r := by first | (rw [hji19] at H; exact H) | (simp only [hji19] at H ⊢; exact H)
                            have hji19_ : (if (wrap64 ((wrap64 (x5_2 + 1)) - 1)) < x6_2 then (wrap64 ((wrap64 (x5_2 + 1)) - 1)) else x6_2) = ji19 := hji19
                            have H' := Aside0.mk H
                            clear H
                            have p111 : 0 ≤ (x7_2 : Int) := of_decide_eq_true (by first | (with_reducible assumption) | assumption)
                            have q111 : x7_2 < (l0.length : Int) := of_decide_eq_true (by first | (with_reducible assumption) | assumption)
                            obtain ⟨ad111, e111, hx111_0⟩ := Kd.at_bool HR0.out x7_2 p111 q111
                            (try rw [← Nbq12.out] at hx111_0)
                            (try rw [← Nbq17.out] at hx111_0)
                            cases e111
                            replace hx111_0 := (HB.out.cell (World.block_lt_of_cell? w _ hx111_0)).trans hx111_0
                            replace p111 := eq_true p111
                            replace q111 := eq_true q111
                            have p112 : 0 ≤ ((ji14) : Int) := of_decide_eq_true (by first | (with_reducible assumption) | assumption)
                            have q112 : (ji14) < (l0.length : Int) := of_decide_eq_true (by first | (with_reducible assumption) | assumption)
                            obtain ⟨ad112, e112, hx112_0⟩ := Kd.at_bool HR0.out (ji14) p112 q112
                            (try rw [← Nbq12.out] at hx112_0)
                            (try rw [← Nbq17.out] at hx112_0)
                            obtain rfl : ad111 = ad112 := (by injection e112)
                            replace hx112_0 := (HB.out.cell (World.block_lt_of_cell? w _ hx112_0)).trans hx112_0
                            replace p112 := eq_true p112
                            replace q112 := eq_true q112
                            go_wp2
                            go_roundg k2
                            case measure => have := HJ2.out; have := HK2.out; omega
                            case rel => exact ⟨(wrap64 ((wrap64 (x5_2 + 1)) - 1)), (ji19), (wrap64 (x7_2 + 1)), (by first | rfl | (simp; done) | (simp [*]; done)), (by first | rfl | (simp; done) | (simp only [← hji19] <;> (first | rfl | simp)) | (simp [*]; done)), (by first | rfl | (simp; done) | (simp [*]; done)), H', ⟨by have := HJ2.out; have := HK2.out; omega⟩, ⟨by repeat (first | (with_reducible first | exact HB.out | apply below_alloc | apply pw_below_drewN | apply below_drew1) | exact HB.out)⟩⟩
                          · replace c18 := Bool.eq_false_iff.mpr c18
                            subst c18
                            have H1 : (supply_Least.l0 k2 l0 a1 (wrap64 (x5_2 + 1)) (mn x6_2 (wrap64 (x5_2 + 1))) (wrap64 (x7_2 + 1))) = some r := by rw [if_neg (show ¬ (false = true) by decide)] at H; exact H
                            clear H
                            have H := H1
                            clear H1
                            obtain ⟨ji20, hji20⟩ : ∃ j_ : Int, (mn x6_2 (wrap64 (x5_2 + 1))) = j_ := ⟨_, rfl⟩
                            replace H : (supply_Least.l0 k2 l0 a1 (wrap64 (x5_2 + 1)) ji20 (wrap64 (x7_2 + 1))) = some r := by first | (rw [hji20] at H; exact H) | (simp only [hji20] at H ⊢; exact H)
                            have hji20_ : (if (wrap64 (x5_2 + 1)) < x6_2 then (wrap64 (x5_2 + 1)) else x6_2) = ji20 := hji20
                            have H' := Aside0.mk H
                            clear H
                            have p111 : 0 ≤ (x7_2 : Int) := of_decide_eq_true (by first | (with_reducible assumption) | assumption)
                            have q111 : x7_2 < (l0.length : Int) := of_decide_eq_true (by first | (with_reducible assumption) | assumption)
                            obtain ⟨ad111, e111, hx111_0⟩ := Kd.at_bool HR0.out x7_2 p111 q111
                            (try rw [← Nbq12.out] at hx111_0)
                            (try rw [← Nbq17.out] at hx111_0)
                            cases e111
                            replace hx111_0 := (HB.out.cell (World.block_lt_of_cell? w _ hx111_0)).trans hx111_0
                            replace p111 := eq_true p111
                            replace q111 := eq_true q111
                            have p112 : 0 ≤ ((ji14) : Int) := of_decide_eq_true (by first | (with_reducible assumption) | assumption)
                            have q112 : (ji14) < (l0.length : Int) := of_decide_eq_true (by first | (with_reducible assumption) | assumption)
                            obtain ⟨ad112, e112, hx112_0⟩ := Kd.at_bool HR0.out (ji14) p112 q112
                            (try rw [← Nbq12.out] at hx112_0)
                            (try rw [← Nbq17.out] at hx112_0)
                            obtain rfl : ad111 = ad112 := (by injection e112)
                            replace hx112_0 := (HB.out.cell (World.block_lt_of_cell? w _ hx112_0)).trans hx112_0
                            replace p112 := eq_true p112
                            replace q112 := eq_true q112
                            go_wp2
                            go_roundg k2
                            case measure => have := HJ2.out; have := HK2.out; omega
                            case rel => exact ⟨(wrap64 (x5_2 + 1)), (ji20), (wrap64 (x7_2 + 1)), (by first | rfl | (simp; done) | (simp [*]; done)), (by first | rfl | (simp; done) | (simp only [← hji20] <;> (first | rfl | simp)) | (simp [*]; done)), (by first | rfl | (simp; done) | (simp [*]; done)), H', ⟨by have := HJ2.out; have := HK2.out; omega⟩, ⟨by repeat (first | (with_reducible first | exact HB.out | apply below_alloc | apply pw_below_drewN | apply below_drew1) | exact HB.out)⟩⟩
                        · rw [if_neg c16] at H
                          exact absurd H (by simp)
                      · rw [if_neg c15] at H
                        exact absurd H (by simp)
                    · replace c13 := Bool.eq_false_iff.mpr c13
                      subst c13
                      have H1 : (if 0 ≤ (wrap64 (x7_2 - a1)) then (if (wrap64 (x7_2 - a1)) < (l0.length : Int) then (if rdOf false l0 (wrap64 (x7_2 - a1)) = true then (supply_Least.l0 k2 l0 a1 (wrap64 (x5_2 - 1)) (mn x6_2 (wrap64 (x5_2 - 1))) (wrap64 (x7_2 + 1))) else (supply_Least.l0 k2 l0 a1 x5_2 (mn x6_2 x5_2) (wrap64 (x7_2 + 1)))) else (none)) else (none)) = some r := by rw [if_neg (show ¬ (false = true) by decide)] at H; exact H
                      clear H
                      have H := H1
                      clear H1
                      obtain ⟨ji21, hji21⟩ : ∃ j_ : Int, (wrap64 (x7_2 - a1)) = j_ := ⟨_, rfl⟩
                      replace H : (if 0 ≤ (ji21) then (if (ji21) < (l0.length : Int) then (if rdOf false l0 (ji21) = true then (supply_Least.l0 k2 l0 a1 (wrap64 (x5_2 - 1)) (mn x6_2 (wrap64 (x5_2 - 1))) (wrap64 (x7_2 + 1))) else (supply_Least.l0 k2 l0 a1 x5_2 (mn x6_2 x5_2) (wrap64 (x7_2 + 1)))) else (none)) else (none)) = some r := by first | (rw [hji21] at H; exact H) | (simp only [hji21] at H ⊢; exact H)
                      have hji21w : (IntKind.i64.wrap (x7_2 - a1)) = ji21 := (i64_w _).trans hji21
                      by_cases c22 : 0 ≤ (ji21)
                      · rw [if_pos c22] at H
                        have c22b0 : decide (0 ≤ (ji21)) = true := decide_eq_true c22
                        clear c22
                        by_cases c23 : (ji21) < (l0.length : Int)
                        · rw [if_pos c23] at H
                          have c23b0 : decide ((ji21) < (l0.length : Int)) = true := decide_eq_true c23
                          clear c23
                          obtain ⟨bq24, hbq24⟩ : ∃ b_ : Bool, b_ = (rdOf false l0 (ji21)) := ⟨_, rfl⟩
                          replace H : (if bq24 = true then (supply_Least.l0 k2 l0 a1 (wrap64 (x5_2 - 1)) (mn x6_2 (wrap64 (x5_2 - 1))) (wrap64 (x7_2 + 1))) else (supply_Least.l0 k2 l0 a1 x5_2 (mn x6_2 x5_2) (wrap64 (x7_2 + 1)))) = some r := by rw [← hbq24] at H; exact H
                          have Nbq24 := Aside0.mk hbq24
                          clear hbq24
                          by_cases c25 : bq24 = true
                          · subst c25
                            have H1 : (supply_Least.l0 k2 l0 a1 (wrap64 (x5_2 - 1)) (mn x6_2 (wrap64 (x5_2 - 1))) (wrap64 (x7_2 + 1))) = some r := by rw [if_pos rfl] at H; exact H
                            clear H
                            have H := H1
                            clear H1
                            obtain ⟨ji26, hji26⟩ : ∃ j_ : Int, (mn x6_2 (wrap64 (x5_2 - 1))) = j_ := ⟨_, rfl⟩
                            replace H : (supply_Least.l0 k2 l0 a1 (wrap64 (x5_2 - 1)) ji26 (wrap64 (x7_2 + 1))) = some r := by first | (rw [hji26] at H; exact H) | (simp only [hji26] at H ⊢; exact H)
                            have hji26_ : (if (wrap64 (x5_2 - 1)) < x6_2 then (wrap64 (x5_2 - 1)) else x6_2) = ji26 := hji26
                            have H' := Aside0.mk H
                            clear H
                            have p111 : 0 ≤ (x7_2 : Int) := of_decide_eq_true (by first | (with_reducible assumption) | assumption)
                            have q111 : x7_2 < (l0.length : Int) := of_decide_eq_true (by first | (with_reducible assumption) | assumption)
                            obtain ⟨ad111, e111, hx111_0⟩ := Kd.at_bool HR0.out x7_2 p111 q111
                            (try rw [← Nbq12.out] at hx111_0)
                            (try rw [← Nbq24.out] at hx111_0)
                            cases e111
                            replace hx111_0 := (HB.out.cell (World.block_lt_of_cell? w _ hx111_0)).trans hx111_0
                            replace p111 := eq_true p111
                            replace q111 := eq_true q111
                            have p113 : 0 ≤ ((ji21) : Int) := of_decide_eq_true (by first | (with_reducible assumption) | assumption)
                            have q113 : (ji21) < (l0.length : Int) := of_decide_eq_true (by first | (with_reducible assumption) | assumption)
                            obtain ⟨ad113, e113, hx113_0⟩ := Kd.at_bool HR0.out (ji21) p113 q113
                            (try rw [← Nbq12.out] at hx113_0)
                            (try rw [← Nbq24.out] at hx113_0)
                            obtain rfl : ad111 = ad113 := (by injection e113)
                            replace hx113_0 := (HB.out.cell (World.block_lt_of_cell? w _ hx113_0)).trans hx113_0
                            replace p113 := eq_true p113
                            replace q113 := eq_true q113
                            go_wp2
                            go_roundg k2
                            case measure => have := HJ2.out; have := HK2.out; omega
                            case rel => exact ⟨(wrap64 (x5_2 - 1)), (ji26), (wrap64 (x7_2 + 1)), (by first | rfl | (simp; done) | (simp [*]; done)), (by first | rfl | (simp; done) | (simp only [← hji26] <;> (first | rfl | simp)) | (simp [*]; done)), (by first | rfl | (simp; done) | (simp [*]; done)), H', ⟨by have := HJ2.out; have := HK2.out; omega⟩, ⟨by repeat (first | (with_reducible first | exact HB.out | apply below_alloc | apply pw_below_drewN | apply below_drew1) | exact HB.out)⟩⟩
                          · replace c25 := Bool.eq_false_iff.mpr c25
                            subst c25
                            have H1 : (supply_Least.l0 k2 l0 a1 x5_2 (mn x6_2 x5_2) (wrap64 (x7_2 + 1))) = some r := by rw [if_neg (show ¬ (false = true) by decide)] at H; exact H
                            clear H
                            have H := H1
                            clear H1
                            obtain ⟨ji27, hji27⟩ : ∃ j_ : Int, (mn x6_2 x5_2) = j_ := ⟨_, rfl⟩
                            replace H : (supply_Least.l0 k2 l0 a1 x5_2 ji27 (wrap64 (x7_2 + 1))) = some r := by first | (rw [hji27] at H; exact H) | (simp only [hji27] at H ⊢; exact H)
                            have hji27_ : (if x5_2 < x6_2 then x5_2 else x6_2) = ji27 := hji27
                            have H' := Aside0.mk H
                            clear H
                            have p111 : 0 ≤ (x7_2 : Int) := of_decide_eq_true (by first | (with_reducible assumption) | assumption)
                            have q111 : x7_2 < (l0.length : Int) := of_decide_eq_true (by first | (with_reducible assumption) | assumption)
                            obtain ⟨ad111, e111, hx111_0⟩ := Kd.at_bool HR0.out x7_2 p111 q111
                            (try rw [← Nbq12.out] at hx111_0)
                            (try rw [← Nbq24.out] at hx111_0)
                            cases e111
                            replace hx111_0 := (HB.out.cell (World.block_lt_of_cell? w _ hx111_0)).trans hx111_0
                            replace p111 := eq_true p111
                            replace q111 := eq_true q111
                            have p113 : 0 ≤ ((ji21) : Int) := of_decide_eq_true (by first | (with_reducible assumption) | assumption)
                            have q113 : (ji21) < (l0.length : Int) := of_decide_eq_true (by first | (with_reducible assumption) | assumption)
                            obtain ⟨ad113, e113, hx113_0⟩ := Kd.at_bool HR0.out (ji21) p113 q113
                            (try rw [← Nbq12.out] at hx113_0)
                            (try rw [← Nbq24.out] at hx113_0)
                            obtain rfl : ad111 = ad113 := (by injection e113)
                            replace hx113_0 := (HB.out.cell (World.block_lt_of_cell? w _ hx113_0)).trans hx113_0
                            replace p113 := eq_true p113
                            replace q113 := eq_true q113
                            go_wp2
                            go_roundg k2
                            case measure => have := HJ2.out; have := HK2.out; omega
                            case rel => exact ⟨(x5_2), (ji27), (wrap64 (x7_2 + 1)), (by first | rfl | (simp; done) | (simp [*]; done)), (by first | rfl | (simp; done) | (simp only [← hji27] <;> (first | rfl | simp)) | (simp [*]; done)), (by first | rfl | (simp; done) | (simp [*]; done)), H', ⟨by have := HJ2.out; have := HK2.out; omega⟩, ⟨by repeat (first | (with_reducible first | exact HB.out | apply below_alloc | apply pw_below_drewN | apply below_drew1) | exact HB.out)⟩⟩
                        · rw [if_neg c23] at H
                          exact absurd H (by simp)
                      · rw [if_neg c22] at H
                        exact absurd H (by simp)
                  · rw [if_neg c11] at H
                    exact absurd H (by simp)
                · rw [if_neg c10] at H
                  have c10b0 : decide (x7_2 < (l0.length : Int)) = false := decide_eq_false c10
                  clear c10
                  obtain rfl := Option.some.inj H
                  go_wp2
                  go_ret
                  exact ⟨by first | rfl | (simp [errW_none, errW_some] <;> rfl) | (simp [*, errW_none, errW_some] <;> rfl), by repeat (first | (with_reducible first | exact HB.out | apply below_alloc | apply pw_below_drewN | apply below_drew1) | exact HB.out)⟩
          · rw [if_neg c7] at H
            exact absurd H (by simp)
        · rw [if_neg c6] at H
          exact absurd H (by simp)

end Go.Proofs.Ytbjoidhgcdcbgaa.FSupply
