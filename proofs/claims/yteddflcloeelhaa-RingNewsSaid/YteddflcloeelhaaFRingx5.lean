-- Written by the session (wip/tools) for this claim: functions of the program as Lean functions, and their contracts.
import Derived.Test.YteddflcloeelhaaFRingx0
namespace Go.Proofs.Yteddflcloeelhaa.FRing
open Go.RowKit Go.Proofs.YteddflcloeelhaaW.PrintWords Go.Proofs.YteddflcloeelhaaW.PrintLast Go.Proofs.YteddflcloeelhaaW.PrintMore
attribute [local go_sem] max2_int min2_int max_two min_two max_three min_three max_four min_four   -- for this text's walks alone
set_option linter.unusedVariables false
set_option linter.unusedSimpArgs false

/-! ### remontoirref03_With: function 22 -/
def remontoirref03_With.j0 : Nat → Int → Int → List Int → Int → Int → Option (List Int × Int × Int)
  | 0, _, _, _, _, _ => none
  | k + 1, x1, x5, x277000, x277001, x277002 => (some (([] : List Int) : List Int)).bind fun y278 => (if y278.length + x277000.length < 17592186044416 then ((some (y278 ++ x277000 : List Int)).bind fun y281 => (if 0 ≤ x5 then (if x5 < (y281.length : Int) then (some ((y281.set (x5 : Int).toNat x1), x277001, wrap64 (x277002 + 1))) else (none)) else (none))) else (none))
def remontoirref03_With.f (k : Nat) (l0_0 : List Int) (a0_1 : Int) (a0_2 : Int) (a1 : Int) : Option (List Int × Int × Int) := if (wrap64 (a0_1 + a0_2)) ≥ (l0_0.length : Int) then (remontoirref03_With.j0 k a1 (wrap64 ((wrap64 (a0_1 + a0_2)) - (l0_0.length : Int))) l0_0 a0_1 a0_2) else (remontoirref03_With.j0 k a1 (wrap64 (a0_1 + a0_2)) l0_0 a0_1 a0_2)
theorem remontoirref03_With.mono_l : ∀ k, (∀ y0 y1 y2 y3 y4, LeO (remontoirref03_With.j0 k y0 y1 y2 y3 y4) (remontoirref03_With.j0 (k + 1) y0 y1 y2 y3 y4))
  | 0 => fun _ _ _ _ _ r h => by simp [remontoirref03_With.j0] at h
  | k + 1 => by
    have ih0 := remontoirref03_With.mono_l k
    · intro y0 y1 y2 y3 y4
      unfold remontoirref03_With.j0
      repeat' first
      | (with_reducible exact ih0 _ _ _ _ _)
      | (with_reducible exact LeO.refl _)
      | (with_reducible exact LeO.none _)
      | (with_reducible refine LeO.ite ?_ ?_)
      | (with_reducible refine LeO.bind ?_ (fun _ => ?_))
      | exact ih0 _ _ _ _ _
      | exact LeO.none _
      | refine LeO.ite ?_ ?_
      | refine LeO.bind ?_ (fun _ => ?_)
theorem remontoirref03_With.mono : ∀ a0 a1 a2 a3 k, LeO (remontoirref03_With.f k a0 a1 a2 a3) (remontoirref03_With.f (k + 1) a0 a1 a2 a3) := by
  intro a0 a1 a2 a3 k
  have ih0 := remontoirref03_With.mono_l k
  unfold remontoirref03_With.f
  repeat' first
      | (with_reducible exact ih0 _ _ _ _ _)
      | (with_reducible exact LeO.refl _)
      | (with_reducible exact LeO.none _)
      | (with_reducible refine LeO.ite ?_ ?_)
      | (with_reducible refine LeO.bind ?_ (fun _ => ?_))
      | exact ih0 _ _ _ _ _
      | exact LeO.none _
      | refine LeO.ite ?_ ?_
      | refine LeO.bind ?_ (fun _ => ?_)
set_option maxHeartbeats 8000000 in
set_option maxRecDepth 100000 in
theorem remontoirref03_With.calls (k : Nat) (A0_0 : Option Addr) (c0_0 : Nat) (l0_0 : List Int) (a0_1 : Int) (a0_2 : Int) (a1 : Int) (r1 : List Int) (r2 : Int) (r3 : Int) (w : World) (hr0_0 : Kd.C (Kd.int .i64) w A0_0 l0_0.length l0_0) (hc0_0 : l0_0.length ≤ c0_0) (h : remontoirref03_With.f k l0_0 a0_1 a0_2 a1 = some (r1, r2, r3)) :
    Calls Try.prog 22 #[.agg #[.slice A0_0 l0_0.length c0_0, .int .i64 a0_1, .int .i64 a0_2], .int .i64 a1] w fun e w' => ∃ v0_ : Value, e = .returned (.agg #[v0_, .int .i64 r2, .int .i64 r3]) ∧ Kd.R (Kd.int .i64) 3 w' w.heap.size (fun _ => True) v0_ r1 ∧ Below w.heap.size w w' := by
  have hu30 := Try.underlying30
  have HR0_0 := Aside0.mk hr0_0
  have HC0_0 := Aside0.mk hc0_0
  clear hr0_0 hc0_0
  have HB := Aside0.mk (Below.refl w.heap.size w)
  have H : (if (wrap64 (a0_1 + a0_2)) ≥ (l0_0.length : Int) then (remontoirref03_With.j0 k a1 (wrap64 ((wrap64 (a0_1 + a0_2)) - (l0_0.length : Int))) l0_0 a0_1 a0_2) else (remontoirref03_With.j0 k a1 (wrap64 (a0_1 + a0_2)) l0_0 a0_1 a0_2)) = some (r1, r2, r3) := h
  clear h
  have HC3 := Aside0.mk H
  clear H
  go_enter Try.func22, Try.ntmps22
  go_upto_if 16 with (first | ((with_reducible refine gate_dst (N := 2) rfl ?_); refine box_event ?hg (N := 2) ?hd (cs := #[.slice A0_0 l0_0.length c0_0, .int .i64 a0_1, .int .i64 a0_2]) (t := 30) ?hr ?_; (case hd => rfl); (case hg => rfl); (case hr => first | (go_simp; done) | (go_simp; rfl)); intro gb276 hg w4 hbox hb; have n0_ := Aside0.mk (below_step (by repeat (first | (with_reducible first | exact HB.out | apply below_alloc | apply pw_below_drewN | apply below_drew1) | exact HB.out)) hb); have n1_ := Aside0.mk (hbox); have n2_ := Aside0.mk ((by rw [hg]; exact (below_size (by repeat (first | (with_reducible first | exact HB.out | apply below_alloc | apply pw_below_drewN | apply below_drew1) | exact HB.out))) : w.heap.size ≤ gb276)); have n3_ := Aside0.mk ((by rw [hg]; exact (below_size (by repeat (first | (with_reducible first | exact HB.out | apply below_alloc | apply pw_below_drewN | apply below_drew1) | exact HB.out))) : w.heap.size ≤ gb276)); clear HB; have HB := n0_; have BK276 := n1_; have GW276 := n2_; have GE276 := n3_; clear n0_ n1_ n2_ n3_; clear hb hbox hg) | ((with_reducible refine gate_dst (N := 4) rfl ?_); refine box_event ?hg (N := 4) ?hd (cs := #[.slice none 0 0, .int .i64 0, .int .i64 0]) (t := 30) ?hr ?_; (case hd => rfl); (case hg => rfl); (case hr => first | (go_simp; done) | (go_simp; rfl)); intro gb277 hg w5 hbox hb; have n0_ := Aside0.mk (blk_below (g := gb276) (o := .cells #[.slice A0_0 l0_0.length c0_0, .int .i64 a0_1, .int .i64 a0_2] 30 (0, 0)) (by (with_reducible repeat (first | refine blk_drewN ?_ _ | refine blk_drew ?_ | refine blk_alloc ?_ _)); exact BK276.out) hb); have n1_ := Aside0.mk (below_step (by repeat (first | (with_reducible first | exact HB.out | apply below_alloc | apply pw_below_drewN | apply below_drew1 | refine below_set ?_ GE276.out) | exact HB.out)) hb); have n2_ := Aside0.mk (hbox); have n3_ := Aside0.mk ((by rw [hg]; exact (below_size (by repeat (first | (with_reducible first | exact HB.out | apply below_alloc | apply pw_below_drewN | apply below_drew1 | refine below_set ?_ GE276.out) | exact HB.out))) : w.heap.size ≤ gb277)); have n4_ := Aside0.mk ((by rw [hg]; exact (below_size (by repeat (first | (with_reducible first | exact HB.out | apply below_alloc | apply pw_below_drewN | apply below_drew1 | refine below_set ?_ GE276.out) | exact HB.out))) : w.heap.size ≤ gb277)); have n5_ := Aside0.mk ((by rw [hg]; exact Nat.ne_of_lt (blk_lt (g := gb276) (o := .cells #[.slice A0_0 l0_0.length c0_0, .int .i64 a0_1, .int .i64 a0_2] 30 (0, 0)) (by (with_reducible repeat (first | refine blk_drewN ?_ _ | refine blk_drew ?_ | refine blk_alloc ?_ _)); exact BK276.out)) : gb276 ≠ gb277)); have n6_ := Aside0.mk ((by rw [hg]; exact Nat.ne_of_gt (blk_lt (g := gb276) (o := .cells #[.slice A0_0 l0_0.length c0_0, .int .i64 a0_1, .int .i64 a0_2] 30 (0, 0)) (by (with_reducible repeat (first | refine blk_drewN ?_ _ | refine blk_drew ?_ | refine blk_alloc ?_ _)); exact BK276.out)) : gb277 ≠ gb276)); clear BK276; clear HB; have BK276 := n0_; have HB := n1_; have BK277 := n2_; have GW277 := n3_; have GE277 := n4_; have NB276_277 := n5_; have NB277_276 := n6_; clear n0_ n1_ n2_ n3_ n4_ n5_ n6_; clear hb hbox hg; have hnb6 := NB276_277.out; have hnc6 := NB277_276.out; have hcz7_0 : w5.cell? ⟨gb276, 0, none⟩ = some (.slice A0_0 l0_0.length c0_0) := (blk_cell BK276.out 0).trans rfl; have hcz7_1 : w5.cell? ⟨gb276, 1, none⟩ = some (.int .i64 a0_1) := (blk_cell BK276.out 1).trans rfl; have hcz7_2 : w5.cell? ⟨gb276, 2, none⟩ = some (.int .i64 a0_2) := (blk_cell BK276.out 2).trans rfl; have hfz7_0 := blk_frozen BK276.out 0; have hfz7_1 := blk_frozen BK276.out 1; have hfz7_2 := blk_frozen BK276.out 2))
  (try simp only [Act.put, List.setIfInBounds_toArray, List.set_cons_zero, List.set_cons_succ])
  go_cut [5] (fun v5 wc => ∃ (kq : Nat) (x5_2 : Int), v5 = .int .i64 x5_2 ∧ Aside0 (remontoirref03_With.j0 kq a1 x5_2 l0_0 a0_1 a0_2 = some (r1, r2, r3)) ∧ Aside0 (kq ≤ k) ∧ Aside0 (wc.heap[gb276]? = some (.cells #[(.slice A0_0 l0_0.length c0_0), .int .i64 a0_1, .int .i64 a0_2] 30 (0, 0))) ∧ Aside0 (wc.heap[gb277]? = some (.cells #[(.slice none 0 0), .int .i64 0, .int .i64 0] 30 (0, 0))) ∧ Aside0 (Below w.heap.size w wc))
  case first =>
    have H := HC3.out
    clear HC3
    by_cases c8 : (wrap64 (a0_1 + a0_2)) ≥ (l0_0.length : Int)
    · rw [if_pos c8] at H
      have c8b0 : decide ((l0_0.length : Int) ≤ (wrap64 (a0_1 + a0_2))) = true := decide_eq_true c8
      clear c8
      (first | rw [c8b0] | (simp only [i64_w, i32_w]; rw [c8b0]) | rw [c8b1] | (simp only [i64_w, i32_w]; rw [c8b1]) | skip)
      have H' := Aside0.mk H
      clear H
      have hnb9 := NB276_277.out
      have hnc9 := NB277_276.out
      have hcz10_0 : w5.cell? ⟨gb276, 0, none⟩ = some (.slice A0_0 l0_0.length c0_0) := (blk_cell BK276.out 0).trans rfl
      have hcz10_1 : w5.cell? ⟨gb276, 1, none⟩ = some (.int .i64 a0_1) := (blk_cell BK276.out 1).trans rfl
      have hcz10_2 : w5.cell? ⟨gb276, 2, none⟩ = some (.int .i64 a0_2) := (blk_cell BK276.out 2).trans rfl
      have hfz10_0 := blk_frozen BK276.out 0
      have hfz10_1 := blk_frozen BK276.out 1
      have hfz10_2 := blk_frozen BK276.out 2
      go_wp2
      go_meet
      case rel => exact ⟨_, (wrap64 ((wrap64 (a0_1 + a0_2)) - (l0_0.length : Int))), (by first | rfl | (simp; done) | (simp [*]; done)), H', ⟨by first | omega | exact Nat.le_refl _⟩, ⟨by (with_reducible repeat (first | refine blk_drewN ?_ _ | refine blk_drew ?_ | refine blk_alloc ?_ _)); exact BK276.out⟩, ⟨by (with_reducible repeat (first | refine blk_drewN ?_ _ | refine blk_drew ?_ | refine blk_alloc ?_ _)); exact BK277.out⟩, ⟨by repeat (first | (with_reducible first | exact HB.out | apply below_alloc | apply pw_below_drewN | apply below_drew1 | refine below_set ?_ GE276.out | refine below_set ?_ GE277.out) | exact HB.out)⟩⟩
    · rw [if_neg c8] at H
      have c8b0 : decide ((l0_0.length : Int) ≤ (wrap64 (a0_1 + a0_2))) = false := decide_eq_false c8
      clear c8
      (first | rw [c8b0] | (simp only [i64_w, i32_w]; rw [c8b0]) | rw [c8b1] | (simp only [i64_w, i32_w]; rw [c8b1]) | skip)
      have H' := Aside0.mk H
      clear H
      go_wp2
      go_meet
      case rel => exact ⟨_, (wrap64 (a0_1 + a0_2)), (by first | rfl | (simp; done) | (simp [*]; done)), H', ⟨by first | omega | exact Nat.le_refl _⟩, ⟨by (with_reducible repeat (first | refine blk_drewN ?_ _ | refine blk_drew ?_ | refine blk_alloc ?_ _)); exact BK276.out⟩, ⟨by (with_reducible repeat (first | refine blk_drewN ?_ _ | refine blk_drew ?_ | refine blk_alloc ?_ _)); exact BK277.out⟩, ⟨by repeat (first | (with_reducible first | exact HB.out | apply below_alloc | apply pw_below_drewN | apply below_drew1 | refine below_set ?_ GE276.out | refine below_set ?_ GE277.out) | exact HB.out)⟩⟩
  case rest =>
    clear HC3
    try clear c2
    try clear p2
    try clear c6
    try clear p6
    try clear c8
    try clear c8b0
    try clear c9
    try clear hcz10_0
    try clear hcz10_1
    try clear hcz10_2
    try clear hcz7_0
    try clear hcz7_1
    try clear hcz7_2
    try clear hfz10_0
    try clear hfz10_1
    try clear hfz10_2
    try clear hfz7_0
    try clear hfz7_1
    try clear hfz7_2
    obtain ⟨kq, x5_2, rfl, HA, HJ2, BK276, BK277, HB⟩ := hcut
    cases kq with
    | zero => exact absurd HA.out (by simp [remontoirref03_With.j0])
    | succ kj2 =>
      have H := HA.out
      clear HA
      simp only [remontoirref03_With.j0] at H
      obtain ⟨y278, hy278⟩ : ∃ y_ : List Int, y_ = (([] : List Int)) := ⟨_, rfl⟩
      replace H : (if y278.length + l0_0.length < 17592186044416 then ((some (y278 ++ l0_0 : List Int)).bind fun y281 => (if 0 ≤ x5_2 then (if x5_2 < (y281.length : Int) then (some ((y281.set (x5_2 : Int).toNat a1), a0_1, wrap64 (a0_2 + 1))) else (none)) else (none))) else (none)) = some (r1, r2, r3) := by first | (rw [hy278]; with_reducible exact H) | (have H2_ := (Option.bind_some _ _).symm.trans H; rw [hy278]; with_reducible exact H2_) | (have H2_ := (Option.bind_some _ _).symm.trans H; with_reducible exact H2_) | with_reducible exact H | (rw [hy278]; exact H) | exact H
      have Ny278 := Aside0.mk hy278
      clear hy278
      by_cases c11 : y278.length + l0_0.length < 17592186044416
      · rw [if_pos c11] at H
        have LMc11 := Aside0.mk c11
        clear c11
        obtain ⟨y281, hy281⟩ : ∃ y_ : List Int, y_ = (y278 ++ l0_0) := ⟨_, rfl⟩
        replace H : (if 0 ≤ x5_2 then (if x5_2 < (y281.length : Int) then (some ((y281.set (x5_2 : Int).toNat a1), a0_1, wrap64 (a0_2 + 1))) else (none)) else (none)) = some (r1, r2, r3) := by first | (rw [hy281]; with_reducible exact H) | (have H2_ := (Option.bind_some _ _).symm.trans H; rw [hy281]; with_reducible exact H2_) | (have H2_ := (Option.bind_some _ _).symm.trans H; with_reducible exact H2_) | with_reducible exact H | (rw [hy281]; exact H) | exact H
        have Ny281 := Aside0.mk hy281
        clear hy281
        by_cases c12 : 0 ≤ x5_2
        · rw [if_pos c12] at H
          have c12b0 : decide (0 ≤ x5_2) = true := decide_eq_true c12
          clear c12
          by_cases c13 : x5_2 < (y281.length : Int)
          · rw [if_pos c13] at H
            have c13b0 : decide (x5_2 < (y281.length : Int)) = true := decide_eq_true c13
            clear c13
            obtain ⟨y284, hy284⟩ : ∃ y_ : List Int, y_ = (y281.set (x5_2 : Int).toNat a1) := ⟨_, rfl⟩
            replace H : (some (y284, a0_1, wrap64 (a0_2 + 1))) = some (r1, r2, r3) := by first | (rw [hy284]; with_reducible exact H) | (have H2_ := (Option.bind_some _ _).symm.trans H; rw [hy284]; with_reducible exact H2_) | (have H2_ := (Option.bind_some _ _).symm.trans H; with_reducible exact H2_) | with_reducible exact H | (rw [hy284]; exact H) | exact H
            have Ny284 := Aside0.mk hy284
            clear hy284
            simp only [Option.some.injEq, Prod.mk.injEq] at H
            obtain ⟨rfl, rfl, rfl⟩ := H
            go_wp2_with (first | ((with_reducible refine gate_dst (N := 22) rfl ?_); refine Kd.R_lit (Kd.int .i64) _ 3 ?hg (N := 22) ?hd (xs := ([] : List Int)) (inner := []) (ok := fun _ => True) (okp := fun _ => True) ?hr ?hp (fun _ hk => hk) trivial (Below.refl _ _) (Nat.le_refl _) (by simp) ?_; (case hd => rfl); (case hg => rfl); (case hr => first | (go_simp; done) | (go_simp; rfl)); (case hp => exact (Reps.none _ _)); intro v279 w15 ho16 hb hg_ hnew_; clear hg_ hnew_; (first | rw [← Ny278.out] at ho16 | (simp only [Int.reduceToNat] at ho16; rw [← Ny278.out] at ho16)); have n0_ := Aside0.mk (Kd.R_lower ho16 (below_size (by repeat (first | (with_reducible first | exact HB.out | apply below_alloc | apply pw_below_drewN | apply below_drew1 | refine below_set ?_ GE276.out | refine below_set ?_ GE277.out) | exact HB.out)))); have n1_ := Aside0.mk (blk_below (g := gb276) (o := .cells #[.slice A0_0 l0_0.length c0_0, .int .i64 a0_1, .int .i64 a0_2] 30 (0, 0)) (by (with_reducible repeat (first | refine blk_drewN ?_ _ | refine blk_drew ?_ | refine blk_alloc ?_ _)); exact BK276.out) hb); have n2_ := Aside0.mk (blk_below (g := gb277) (o := .cells #[.slice none 0 0, .int .i64 0, .int .i64 0] 30 (0, 0)) (by (with_reducible repeat (first | refine blk_drewN ?_ _ | refine blk_drew ?_ | refine blk_alloc ?_ _)); exact BK277.out) hb); have n3_ := Aside0.mk (below_step (by repeat (first | (with_reducible first | exact HB.out | apply below_alloc | apply pw_below_drewN | apply below_drew1 | refine below_set ?_ GE276.out | refine below_set ?_ GE277.out) | exact HB.out)) hb); clear BK276; clear BK277; clear HB; have HO280 := n0_; have BK276 := n1_; have BK277 := n2_; have HB := n3_; clear n0_ n1_ n2_ n3_; clear hb ho16; have hnb17 := NB276_277.out; have hnc17 := NB277_276.out; have hcz18_0 : w15.cell? ⟨gb276, 0, none⟩ = some (.slice A0_0 l0_0.length c0_0) := (blk_cell BK276.out 0).trans rfl; have hcz18_1 : w15.cell? ⟨gb276, 1, none⟩ = some (.int .i64 a0_1) := (blk_cell BK276.out 1).trans rfl; have hcz18_2 : w15.cell? ⟨gb276, 2, none⟩ = some (.int .i64 a0_2) := (blk_cell BK276.out 2).trans rfl; have hfz18_0 := blk_frozen BK276.out 0; have hfz18_1 := blk_frozen BK276.out 1; have hfz18_2 := blk_frozen BK276.out 2) | ((with_reducible refine gate_builtin (b := .append) (xs := #[.tmp 22, .tmp 24]) rfl ?_); at_builtin; refine Kd.R_append_rows (Kd.int .i64) (w0 := w) w.heap.size rfl (.tmp 22) (.tmp 24) 22 3 (.int .i64 0) 8 rfl Try.underlying22 info3 rfl (by decide) (by omega) v279 y278 l0_0 _ _ _ (fun _ => True) (fun _ => False) rfl rfl ?aO ?aR (fun _ _ h => h) (fun _ h => h.elim) ?aF ?aB ?aS ?aL ?_; (case aR => repeat (first | exact (Kd.C_below HR0_0.out HB.out) | (with_reducible refine Kd.C_alloc ?_ _) | (with_reducible refine Kd.C_drewN ?_ _) | (with_reducible refine Kd.C_drew ?_))); (case aB => exact (by repeat (first | (with_reducible first | exact HB.out | apply below_alloc | apply pw_below_drewN | apply below_drew1 | refine below_set ?_ GE276.out | refine below_set ?_ GE277.out) | exact HB.out))); (case aF => exact (fun _ _ => trivial)); (case aO => exact (by (with_reducible repeat (first | apply Kd.R_alloc | apply Kd.R_drewN | apply Kd.R_drew)); exact HO280.out)); (case aS => exact (below_size (by repeat (first | (with_reducible first | exact HB.out | apply below_alloc | apply pw_below_drewN | apply below_drew1 | refine below_set ?_ GE276.out | refine below_set ?_ GE277.out) | exact HB.out)))); (case aL => have := LMc11.out; omega); intro v282 w19 ho hb hg hat; rw [← Ny281.out] at ho; have n0_ := Aside0.mk (blk_grown (g := gb276) (o := .cells #[.slice A0_0 l0_0.length c0_0, .int .i64 a0_1, .int .i64 a0_2] 30 (0, 0)) (by (with_reducible repeat (first | refine blk_drewN ?_ _ | refine blk_drew ?_ | refine blk_alloc ?_ _)); exact BK276.out) hg (Kd.R_ne HO280.out BK276.out (by decide))); have n1_ := Aside0.mk (blk_grown (g := gb277) (o := .cells #[.slice none 0 0, .int .i64 0, .int .i64 0] 30 (0, 0)) (by (with_reducible repeat (first | refine blk_drewN ?_ _ | refine blk_drew ?_ | refine blk_alloc ?_ _)); exact BK277.out) hg (Kd.R_ne HO280.out BK277.out (by decide))); have n2_ := Aside0.mk (hb); have n3_ := Aside0.mk (ho); clear BK276; clear BK277; clear HB; clear HO280; have BK276 := n0_; have BK277 := n1_; have HB := n2_; have HO283 := n3_; clear n0_ n1_ n2_ n3_; clear ho hb hg hat; have p14 : 0 ≤ (x5_2 : Int) := of_decide_eq_true (by first | (with_reducible assumption) | assumption); have q14 : (x5_2 : Int) < ((y281.length : Int) : Int) := of_decide_eq_true (by first | (with_reducible assumption) | assumption); obtain ⟨go14, co14, eo14, gb14, gl14, cl14, HG14⟩ := Kd.R_form HO283.out (by omega); (first | cases eo14 | (injection eo14 with ea_ en_ ec_; (first | subst ea_ | (injection ea_ with ea_; subst ea_)); subst ec_; clear en_)); have GB14 := Aside0.mk gb14; have GG14 := Aside0.mk HG14; clear gb14 gl14 HG14; obtain ⟨hx14_0, hf14_0⟩ := Kd.R_celln 0 HO283.out (x5_2 : Int) p14 q14; replace p14 := eq_true p14; replace q14 := eq_true q14; obtain ⟨hy20_, hz20_⟩ := Kd.R_celln 0 HO283.out (x5_2 : Int) (of_decide_eq_true (by first | (with_reducible assumption) | assumption)) (of_decide_eq_true (by first | (with_reducible assumption) | assumption)); have HP20 := Kd.R_putg HO283.out (x5_2 : Int) a1) | ((with_reducible refine gate_store (t := 3) (p := 29) rfl ?_); refine store_event (t := 3) (p := 29) (v := ?vo_w21) (w1 := (w19.setCell ⟨go14, (x5_2 : Int).toNat, none⟩ (.int .i64 a1))) ?hg ?ho ?hn ?hr ?_; (case ho => rfl); (case hg => rfl); (case hn => rfl); (case hr => first | (go_simp; done) | (go_simp; rfl)); intro w21 hw; have hg : w19.grownBy w21 (some go14) := (by rw [hw]; exact HP20.2); have hp_ : Kd.R (Kd.int .i64) 3 w21 w.heap.size (fun _ => True) (.slice (some ⟨go14, 0, none⟩) y281.length co14) y284 := (by rw [hw, Ny284.out]; exact HP20.1); clear HP20; have n0_ := Aside0.mk (blk_grown (g := gb276) (o := .cells #[.slice A0_0 l0_0.length c0_0, .int .i64 a0_1, .int .i64 a0_2] 30 (0, 0)) (by (with_reducible repeat (first | refine blk_drewN ?_ _ | refine blk_drew ?_ | refine blk_alloc ?_ _)); exact BK276.out) hg (Kd.R_ne HO283.out BK276.out (by decide))); have n1_ := Aside0.mk (blk_grown (g := gb277) (o := .cells #[.slice none 0 0, .int .i64 0, .int .i64 0] 30 (0, 0)) (by (with_reducible repeat (first | refine blk_drewN ?_ _ | refine blk_drew ?_ | refine blk_alloc ?_ _)); exact BK277.out) hg (Kd.R_ne HO283.out BK277.out (by decide))); have n2_ := Aside0.mk (hp_); have n3_ := Aside0.mk ((by rw [hw]; exact below_set (HB.out) GB14.out : Below w.heap.size w w21)); clear BK276; clear BK277; clear HO283; clear HB; have BK276 := n0_; have BK277 := n1_; have HO283 := n2_; have HB := n3_; clear n0_ n1_ n2_ n3_; clear hg hw hp_; have hcz22_0 : w21.cell? ⟨gb276, 0, none⟩ = some (.slice A0_0 l0_0.length c0_0) := (blk_cell BK276.out 0).trans rfl; have hcz22_1 : w21.cell? ⟨gb276, 1, none⟩ = some (.int .i64 a0_1) := (blk_cell BK276.out 1).trans rfl; have hcz22_2 : w21.cell? ⟨gb276, 2, none⟩ = some (.int .i64 a0_2) := (blk_cell BK276.out 2).trans rfl; have hfz22_0 := blk_frozen BK276.out 0; have hfz22_1 := blk_frozen BK276.out 1; have hfz22_2 := blk_frozen BK276.out 2; have hcz23_0 : w21.cell? ⟨gb277, 0, none⟩ = some (.slice none 0 0) := (blk_cell BK277.out 0).trans rfl; have hcz23_1 : w21.cell? ⟨gb277, 1, none⟩ = some (.int .i64 0) := (blk_cell BK277.out 1).trans rfl; have hcz23_2 : w21.cell? ⟨gb277, 2, none⟩ = some (.int .i64 0) := (blk_cell BK277.out 2).trans rfl; have hfz23_0 := blk_frozen BK277.out 0; have hfz23_1 := blk_frozen BK277.out 1; have hfz23_2 := blk_frozen BK277.out 2))
            refine bodyPost_ret (results_cell_row rfl _ _ gb277 30 #[.slice (some ⟨go14, 0, none⟩) y281.length co14, .int .i64 a0_1, .int .i64 (wrap64 (a0_2 + 1))] (0, 0) _ rfl (by (with_reducible repeat (first | refine blk_drewN ?_ _ | refine blk_drew ?_ | refine blk_alloc ?_ _)); refine blk_put (cs := #[.slice (some ⟨go14, 0, none⟩) y281.length co14, .int .i64 a0_1, .int .i64 0]) ?_ 2 _ rfl; (with_reducible repeat (first | refine blk_drewN ?_ _ | refine blk_drew ?_ | refine blk_alloc ?_ _)); refine blk_put (cs := #[.slice (some ⟨go14, 0, none⟩) y281.length co14, .int .i64 0, .int .i64 0]) ?_ 1 _ rfl; (with_reducible repeat (first | refine blk_drewN ?_ _ | refine blk_drew ?_ | refine blk_alloc ?_ _)); refine blk_put (cs := #[.slice none 0 0, .int .i64 0, .int .i64 0]) ?_ 0 _ rfl; (with_reducible repeat (first | refine blk_drewN ?_ _ | refine blk_drew ?_ | refine blk_alloc ?_ _)); exact BK277.out) Try.underlying30 rfl (by kernel_rfl)) rfl ?_
            exact ⟨_, by first | rfl | (rw [HR_.out] <;> rfl) | (simp [errW_none, errW_some] <;> rfl) | (simp [*, errW_none, errW_some] <;> rfl), by (with_reducible repeat (first | apply Kd.R_alloc | apply Kd.R_drewN | apply Kd.R_drew)); exact Kd.R_mono (Kd.R_far (p := ⟨gb277, 2, none⟩) (Kd.R_far (p := ⟨gb277, 1, none⟩) (Kd.R_far (p := ⟨gb277, 0, none⟩) (Kd.R_types HO283.out BK277.out (by decide)) (fun _ hk => hk.2) (.slice (some ⟨go14, 0, none⟩) y281.length co14)) (fun _ hk => hk.2) (.int .i64 a0_1)) (fun _ hk => hk.2) (.int .i64 (wrap64 (a0_2 + 1)))) (fun _ hk => trivial), by repeat (first | (with_reducible first | exact HB.out | apply below_alloc | apply pw_below_drewN | apply below_drew1 | refine below_set ?_ GE276.out | refine below_set ?_ GE277.out) | exact HB.out)⟩
          · rw [if_neg c13] at H
            exact absurd H (by simp)
        · rw [if_neg c12] at H
          exact absurd H (by simp)
      · rw [if_neg c11] at H
        exact absurd H (by simp)

end Go.Proofs.Yteddflcloeelhaa.FRing
