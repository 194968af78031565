-- Written by the session (wip/tools) for this claim: functions of the program as Lean functions, and their contracts.
import Derived.Test.YtkfkghnmbemdiaaTFSynthx0
import Derived.Test.YtkfkghnmbemdiaaTFSynthx2
namespace Go.Proofs.Ytkfkghnmbemdiaa.FSynth
open Go.RowKit Go.Proofs.YtkfkghnmbemdiaaW.PrintWords Go.Proofs.YtkfkghnmbemdiaaW.PrintLast Go.Proofs.YtkfkghnmbemdiaaW.PrintMore
attribute [local go_sem] max2_int min2_int max_two min_two max_three min_three max_four min_four   -- for this text's walks alone
set_option linter.unusedVariables false
set_option linter.unusedSimpArgs false

/-! ### table_At: function 17 -/
mutual
def table_At.j0 : Nat → Int → Bool → Int → List (S46) → Option (Int)
  | 0, _, _, _, _ => none
  | k + 1, x1, x13, x116000, x116001 => if x13 = true then (some (-1)) else (if x116000 = 0 then (none) else (table_At.l0 k (Int.tmod x1 x116000) x116001 (x116001.length : Int) 0))
def table_At.l0 : Nat → Int → List (S46) → Int → Int → Option (Int)
  | 0, _, _, _, _ => none
  | k + 1, x1, x19, x20, x21 => if x21 < x20 then (if 0 ≤ x21 then (if x21 < (x19.length : Int) then (if x1 ≥ ((rd_T46 x19 x21).f1) then (if x1 < (wrap64 (((rd_T46 x19 x21).f1) + ((rd_T46 x19 x21).f2))) then (some ((rd_T46 x19 x21).f0)) else (table_At.l0 k x1 x19 x20 (wrap64 (x21 + 1)))) else (table_At.l0 k x1 x19 x20 (wrap64 (x21 + 1)))) else (none)) else (none)) else (some (-1))
end
def table_At.f (k : Nat) (a0_0 : Int) (l0_1 : List (S46)) (a1 : Int) : Option (Int) := (table_Right.f k a0_0 l0_1).bind fun t116 => (if t116 = true then (table_At.j0 k a1 (decide (a1 < 0)) a0_0 l0_1) else (table_At.j0 k a1 true a0_0 l0_1))
theorem table_At.mono_l : ∀ k, (∀ y0 y1 y2 y3, LeO (table_At.j0 k y0 y1 y2 y3) (table_At.j0 (k + 1) y0 y1 y2 y3)) ∧ (∀ y0 y1 y2 y3, LeO (table_At.l0 k y0 y1 y2 y3) (table_At.l0 (k + 1) y0 y1 y2 y3))
  | 0 => ⟨fun _ _ _ _ r h => by simp [table_At.j0] at h, fun _ _ _ _ r h => by simp [table_At.l0] at h⟩
  | k + 1 => by
    obtain ⟨ih0, ih1⟩ := table_At.mono_l k
    refine ⟨?_, ?_⟩
    · intro y0 y1 y2 y3
      unfold table_At.j0
      repeat' first
      | (with_reducible exact ih0 _ _ _ _)
      | (with_reducible exact ih1 _ _ _ _)
      | (with_reducible exact table_Right.mono _ _ _)
      | (with_reducible exact LeO.refl _)
      | (with_reducible exact LeO.none _)
      | (with_reducible refine LeO.ite ?_ ?_)
      | (with_reducible refine LeO.bind ?_ (fun _ => ?_))
      | exact ih0 _ _ _ _
      | exact ih1 _ _ _ _
      | exact table_Right.mono _ _ _
      | exact LeO.none _
      | refine LeO.ite ?_ ?_
      | refine LeO.bind ?_ (fun _ => ?_)
    · intro y0 y1 y2 y3
      unfold table_At.l0
      repeat' first
      | (with_reducible exact ih0 _ _ _ _)
      | (with_reducible exact ih1 _ _ _ _)
      | (with_reducible exact table_Right.mono _ _ _)
      | (with_reducible exact LeO.refl _)
      | (with_reducible exact LeO.none _)
      | (with_reducible refine LeO.ite ?_ ?_)
      | (with_reducible refine LeO.bind ?_ (fun _ => ?_))
      | exact ih0 _ _ _ _
      | exact ih1 _ _ _ _
      | exact table_Right.mono _ _ _
      | exact LeO.none _
      | refine LeO.ite ?_ ?_
      | refine LeO.bind ?_ (fun _ => ?_)
theorem table_At.mono : ∀ a0 a1 a2 k, LeO (table_At.f k a0 a1 a2) (table_At.f (k + 1) a0 a1 a2) := by
  intro a0 a1 a2 k
  obtain ⟨ih0, ih1⟩ := table_At.mono_l k
  unfold table_At.f
  repeat' first
      | (with_reducible exact ih0 _ _ _ _)
      | (with_reducible exact ih1 _ _ _ _)
      | (with_reducible exact table_Right.mono _ _ _)
      | (with_reducible exact LeO.refl _)
      | (with_reducible exact LeO.none _)
      | (with_reducible refine LeO.ite ?_ ?_)
      | (with_reducible refine LeO.bind ?_ (fun _ => ?_))
      | exact ih0 _ _ _ _
      | exact ih1 _ _ _ _
      | exact table_Right.mono _ _ _
      | exact LeO.none _
      | refine LeO.ite ?_ ?_
      | refine LeO.bind ?_ (fun _ => ?_)
set_option maxHeartbeats 8000000 in
set_option maxRecDepth 100000 in
theorem table_At.calls (k : Nat) (a0_0 : Int) (A0_1 : Option Addr) (c0_1 : Nat) (l0_1 : List (S46)) (a1 : Int) (r : Int) (w : World) (hr0_1 : Kd.C k46 w A0_1 l0_1.length l0_1) (hc0_1 : l0_1.length ≤ c0_1) (h : table_At.f k a0_0 l0_1 a1 = some r) :
    Calls Try.prog 17 #[.agg #[.int .i64 a0_0, .slice A0_1 l0_1.length c0_1], .int .i64 a1] w fun e w' => e = .returned (.int .i64 r) ∧ Below w.heap.size w w' := by
  have hu24 := Try.underlying24
  have hu46 := Try.underlying46
  have HR0_1 := Aside0.mk hr0_1
  have HC0_1 := Aside0.mk hc0_1
  clear hr0_1 hc0_1
  have HB := Aside0.mk (Below.refl w.heap.size w)
  have H : ((table_Right.f k a0_0 l0_1).bind fun t116 => (if t116 = true then (table_At.j0 k a1 (decide (a1 < 0)) a0_0 l0_1) else (table_At.j0 k a1 true a0_0 l0_1))) = some r := h
  clear h
  have HC3 := Aside0.mk H
  clear H
  go_enter Try.func17, Try.ntmps17
  go_upto_region 1 with (first | ((with_reducible refine gate_dst (N := 2) rfl ?_); refine box_event ?hg (N := 2) ?hd (cs := #[.int .i64 a0_0, .slice A0_1 l0_1.length c0_1]) (t := 24) ?hr ?_; (case hd => rfl); (case hg => rfl); (case hr => first | (go_simp; done) | (go_simp; rfl)); intro gb115 hg w4 hbox hb; have n0_ := Aside0.mk (below_step (by repeat (first | (with_reducible first | exact HB.out | apply below_alloc | apply pw_below_drewN | apply below_drew1) | exact HB.out)) hb); have n1_ := Aside0.mk (hbox); have n2_ := Aside0.mk ((by rw [hg]; exact (below_size (by repeat (first | (with_reducible first | exact HB.out | apply below_alloc | apply pw_below_drewN | apply below_drew1) | exact HB.out))) : w.heap.size ≤ gb115)); have n3_ := Aside0.mk ((by rw [hg]; exact (below_size (by repeat (first | (with_reducible first | exact HB.out | apply below_alloc | apply pw_below_drewN | apply below_drew1) | exact HB.out))) : w.heap.size ≤ gb115)); clear HB; have HB := n0_; have BK115 := n1_; have GW115 := n2_; have GE115 := n3_; clear n0_ n1_ n2_ n3_; clear hb hbox hg))
  (try simp only [Act.put, List.setIfInBounds_toArray, List.set_cons_zero, List.set_cons_succ])
  go_cut [13] (fun v13 wc => ∃ (kq : Nat) (x13_2 : Bool), v13 = .bool x13_2 ∧ Aside0 (table_At.j0 kq a1 x13_2 a0_0 l0_1 = some r) ∧ Aside0 (kq ≤ k) ∧ Aside0 (wc.heap[gb115]? = some (.cells #[.int .i64 a0_0, (.slice A0_1 l0_1.length c0_1)] 24 (0, 0))) ∧ Aside0 (Below w.heap.size w wc))
  case first =>
    have H := HC3.out
    clear HC3
    replace H := Option.bind_eq_some_iff.mp H
    obtain ⟨t116, A50, H⟩ := H
    replace H : (if t116 = true then (table_At.j0 k a1 (decide (a1 < 0)) a0_0 l0_1) else (table_At.j0 k a1 true a0_0 l0_1)) = some r := H
    have A5 := Aside0.mk A50
    clear A50
    by_cases c6 : t116 = true
    · subst c6
      have H1 : (table_At.j0 k a1 (decide (a1 < 0)) a0_0 l0_1) = some r := by rw [if_pos rfl] at H; exact H
      clear H
      have H := H1
      clear H1
      have H' := Aside0.mk H
      clear H
      have hcz7_0 : w4.cell? ⟨gb115, 0, none⟩ = some (.int .i64 a0_0) := (blk_cell BK115.out 0).trans rfl
      have hcz7_1 : w4.cell? ⟨gb115, 1, none⟩ = some (.slice A0_1 l0_1.length c0_1) := (blk_cell BK115.out 1).trans rfl
      have hfz7_0 := blk_frozen BK115.out 0
      have hfz7_1 := blk_frozen BK115.out 1
      go_wp2_with (first | ((with_reducible refine gate_callee (f := 16) rfl ?_); refine goesL_ (some 8) rfl rfl Try.func16 (by kernel_rfl) rfl #[.agg #[.int .i64 a0_0, .slice A0_1 l0_1.length c0_1]] rfl (by (try simp only [List.map_toArray, List.map_cons, List.map_nil]); first | done | rfl | (simp only [List.length_drop, List.length_take]; rfl)) ?_; (with_reducible refine (table_Right.calls k a0_0 _ _ l0_1 true _ ?side1 ?side2 A5.out).mono ?_); (case side1 => repeat (first | exact (Kd.C_below HR0_1.out HB.out) | (with_reducible refine Kd.C_alloc ?_ _) | (with_reducible refine Kd.C_drewN ?_ _) | (with_reducible refine Kd.C_drew ?_))); (case side2 => exact HC0_1.out); rintro e w8 ⟨rfl, hb⟩; refine ⟨_, rfl, ?_⟩; have n0_ := Aside0.mk (blk_below (g := gb115) (o := .cells #[.int .i64 a0_0, .slice A0_1 l0_1.length c0_1] 24 (0, 0)) (by (with_reducible repeat (first | refine blk_drewN ?_ _ | refine blk_drew ?_ | refine blk_alloc ?_ _)); exact BK115.out) hb); have n1_ := Aside0.mk (below_step (by repeat (first | (with_reducible first | exact HB.out | apply below_alloc | apply pw_below_drewN | apply below_drew1 | refine below_set ?_ GE115.out) | exact HB.out)) hb); clear BK115; clear HB; have BK115 := n0_; have HB := n1_; clear n0_ n1_; (try clear hb); (try clear hb2); (try clear hk); (try clear hi)))
      go_meet
      case rel => exact ⟨_, (decide (a1 < 0)), (by first | rfl | (simp; done) | (simp [*]; done)), H', ⟨by first | omega | exact Nat.le_refl _⟩, ⟨by (with_reducible repeat (first | refine blk_drewN ?_ _ | refine blk_drew ?_ | refine blk_alloc ?_ _)); exact BK115.out⟩, ⟨by repeat (first | (with_reducible first | exact HB.out | apply below_alloc | apply pw_below_drewN | apply below_drew1 | refine below_set ?_ GE115.out) | exact HB.out)⟩⟩
    · replace c6 := Bool.eq_false_iff.mpr c6
      subst c6
      have H1 : (table_At.j0 k a1 true a0_0 l0_1) = some r := by rw [if_neg (show ¬ (false = true) by decide)] at H; exact H
      clear H
      have H := H1
      clear H1
      have H' := Aside0.mk H
      clear H
      have hcz9_0 : w4.cell? ⟨gb115, 0, none⟩ = some (.int .i64 a0_0) := (blk_cell BK115.out 0).trans rfl
      have hcz9_1 : w4.cell? ⟨gb115, 1, none⟩ = some (.slice A0_1 l0_1.length c0_1) := (blk_cell BK115.out 1).trans rfl
      have hfz9_0 := blk_frozen BK115.out 0
      have hfz9_1 := blk_frozen BK115.out 1
      go_wp2_with (first | ((with_reducible refine gate_callee (f := 16) rfl ?_); refine goesL_ (some 8) rfl rfl Try.func16 (by kernel_rfl) rfl #[.agg #[.int .i64 a0_0, .slice A0_1 l0_1.length c0_1]] rfl (by (try simp only [List.map_toArray, List.map_cons, List.map_nil]); first | done | rfl | (simp only [List.length_drop, List.length_take]; rfl)) ?_; (with_reducible refine (table_Right.calls k a0_0 _ _ l0_1 false _ ?side1 ?side2 A5.out).mono ?_); (case side1 => repeat (first | exact (Kd.C_below HR0_1.out HB.out) | (with_reducible refine Kd.C_alloc ?_ _) | (with_reducible refine Kd.C_drewN ?_ _) | (with_reducible refine Kd.C_drew ?_))); (case side2 => exact HC0_1.out); rintro e w10 ⟨rfl, hb⟩; refine ⟨_, rfl, ?_⟩; have n0_ := Aside0.mk (blk_below (g := gb115) (o := .cells #[.int .i64 a0_0, .slice A0_1 l0_1.length c0_1] 24 (0, 0)) (by (with_reducible repeat (first | refine blk_drewN ?_ _ | refine blk_drew ?_ | refine blk_alloc ?_ _)); exact BK115.out) hb); have n1_ := Aside0.mk (below_step (by repeat (first | (with_reducible first | exact HB.out | apply below_alloc | apply pw_below_drewN | apply below_drew1 | refine below_set ?_ GE115.out) | exact HB.out)) hb); clear BK115; clear HB; have BK115 := n0_; have HB := n1_; clear n0_ n1_; (try clear hb); (try clear hb2); (try clear hk); (try clear hi)))
      go_meet
      case rel => exact ⟨_, (true), (by first | rfl | (simp; done) | (simp [*]; done)), H', ⟨by first | omega | exact Nat.le_refl _⟩, ⟨by (with_reducible repeat (first | refine blk_drewN ?_ _ | refine blk_drew ?_ | refine blk_alloc ?_ _)); exact BK115.out⟩, ⟨by repeat (first | (with_reducible first | exact HB.out | apply below_alloc | apply pw_below_drewN | apply below_drew1 | refine below_set ?_ GE115.out) | exact HB.out)⟩⟩
  case rest =>
    clear HC3
    try clear c1
    try clear p2
    try clear c6
    try clear hcz7_0
    try clear hcz7_1
    try clear hcz9_0
    try clear hcz9_1
    try clear hfz7_0
    try clear hfz7_1
    try clear hfz9_0
    try clear hfz9_1
    obtain ⟨kq, x13_2, rfl, HA, HJ2, BK115, HB⟩ := hcut
    cases kq with
    | zero => exact absurd HA.out (by simp [table_At.j0])
    | succ kj2 =>
      have H := HA.out
      clear HA
      simp only [table_At.j0] at H
      by_cases c11 : x13_2 = true
      · subst c11
        have H1 : (some (-1)) = some r := by rw [if_pos rfl] at H; exact H
        clear H
        have H := H1
        clear H1
        obtain rfl := Option.some.inj H
        go_wp2
        go_ret
        exact ⟨by first | rfl | (rw [HR_.out] <;> rfl) | (simp [errW_none, errW_some] <;> rfl) | (simp [*, errW_none, errW_some] <;> rfl), by repeat (first | (with_reducible first | exact HB.out | apply below_alloc | apply pw_below_drewN | apply below_drew1 | refine below_set ?_ GE115.out) | exact HB.out)⟩
      · replace c11 := Bool.eq_false_iff.mpr c11
        subst c11
        have H1 : (if a0_0 = 0 then (none) else (table_At.l0 kj2 (Int.tmod a1 a0_0) l0_1 (l0_1.length : Int) 0)) = some r := by rw [if_neg (show ¬ (false = true) by decide)] at H; exact H
        clear H
        have H := H1
        clear H1
        by_cases c12 : a0_0 = 0
        · rw [if_pos c12] at H
          exact absurd H (by simp)
        · rw [if_neg c12] at H
          have c12b0 : (a0_0 == 0) = false := beq_eq_false_iff_ne.mpr c12
          have c12b1 : (a0_0 != 0) = true := bne_iff_ne.mpr c12
          have H' := Aside0.mk H
          clear H
          have hcz13_0 : wc.cell? ⟨gb115, 0, none⟩ = some (.int .i64 a0_0) := (blk_cell BK115.out 0).trans rfl
          have hcz13_1 : wc.cell? ⟨gb115, 1, none⟩ = some (.slice A0_1 l0_1.length c0_1) := (blk_cell BK115.out 1).trans rfl
          have hfz13_0 := blk_frozen BK115.out 0
          have hfz13_1 := blk_frozen BK115.out 1
          go_wp2
          go_loopg [21] kj2 (fun kq v21 w' => ∃ (x21_2 : Int), v21 = .int .i64 x21_2 ∧ Aside0 (table_At.l0 kq (Int.tmod a1 a0_0) l0_1 (l0_1.length : Int) x21_2 = some r) ∧ Aside0 (kq ≤ kj2) ∧ Aside0 (w'.heap[gb115]? = some (.cells #[.int .i64 a0_0, (.slice A0_1 l0_1.length c0_1)] 24 (0, 0))) ∧ Aside0 (Below w.heap.size w w'))
          case atStart => exact ⟨(0), (by first | rfl | (simp; done) | (simp [*]; done)), H', ⟨Nat.le_refl _⟩, ⟨by (with_reducible repeat (first | refine blk_drewN ?_ _ | refine blk_drew ?_ | refine blk_alloc ?_ _)); exact BK115.out⟩, ⟨by repeat (first | (with_reducible first | exact HB.out | apply below_alloc | apply pw_below_drewN | apply below_drew1 | refine below_set ?_ GE115.out) | exact HB.out)⟩⟩
          case round =>
            clear H'
            try clear c1
            try clear p2
            try clear c6
            try clear c11
            try clear c12
            try clear c12b0
            try clear c12b1
            try clear hcz13_0
            try clear hcz13_1
            try clear hcz7_0
            try clear hcz7_1
            try clear hcz9_0
            try clear hcz9_1
            try clear hfz13_0
            try clear hfz13_1
            try clear hfz7_0
            try clear hfz7_1
            try clear hfz9_0
            try clear hfz9_1
            try clear p2
            obtain ⟨x21_2, rfl, HA, HK2, BK115, HB⟩ := hrel
            cases gk with
            | zero => exact absurd HA.out (by simp [table_At.l0])
            | succ k2 =>
              have H := HA.out
              clear HA
              simp only [table_At.l0] at H
              by_cases c14 : x21_2 < (l0_1.length : Int)
              · rw [if_pos c14] at H
                have c14b0 : decide (x21_2 < (l0_1.length : Int)) = true := decide_eq_true c14
                clear c14
                by_cases c15 : 0 ≤ x21_2
                · rw [if_pos c15] at H
                  have c15b0 : decide (0 ≤ x21_2) = true := decide_eq_true c15
                  clear c15
                  by_cases c16 : x21_2 < (l0_1.length : Int)
                  · rw [if_pos c16] at H
                    have c16b0 : decide (x21_2 < (l0_1.length : Int)) = true := decide_eq_true c16
                    clear c16
                    by_cases c17 : (Int.tmod a1 a0_0) ≥ ((rd_T46 l0_1 x21_2).f1)
                    · rw [if_pos c17] at H
                      have c17b0 : decide (((rd_T46 l0_1 x21_2).f1) ≤ (Int.tmod a1 a0_0)) = true := decide_eq_true c17
                      clear c17
                      by_cases c18 : (Int.tmod a1 a0_0) < (wrap64 (((rd_T46 l0_1 x21_2).f1) + ((rd_T46 l0_1 x21_2).f2)))
                      · rw [if_pos c18] at H
                        have c18b0 : decide ((Int.tmod a1 a0_0) < (wrap64 (((rd_T46 l0_1 x21_2).f1) + ((rd_T46 l0_1 x21_2).f2)))) = true := decide_eq_true c18
                        clear c18
                        obtain rfl := Option.some.inj H
                        have p117 : 0 ≤ (x21_2 : Int) := of_decide_eq_true (by first | (with_reducible assumption) | assumption)
                        have q117 : x21_2 < (l0_1.length : Int) := of_decide_eq_true (by first | (with_reducible assumption) | assumption)
                        obtain ⟨ad117, e117, hx117_0, hx117_1, hx117_2⟩ := at_T46 HR0_1.out x21_2 p117 q117
                        cases e117
                        replace hx117_0 := (HB.out.cell (World.block_lt_of_cell? w _ hx117_0)).trans hx117_0
                        replace hx117_1 := (HB.out.cell (World.block_lt_of_cell? w _ hx117_1)).trans hx117_1
                        replace hx117_2 := (HB.out.cell (World.block_lt_of_cell? w _ hx117_2)).trans hx117_2
                        replace p117 := eq_true p117
                        replace q117 := eq_true q117
                        go_wp2_with (first | ((with_reducible refine gate_dst (N := 6) rfl ?_); refine box_event ?hg (N := 6) ?hd (cs := #[.int .i64 0, .int .i64 0, .int .i64 0]) (t := 46) ?hr ?_; (case hd => rfl); (case hg => rfl); (case hr => first | (go_simp; done) | (go_simp; rfl)); intro gb118 hg w19 hbox hb; have n0_ := Aside0.mk (blk_below (g := gb115) (o := .cells #[.int .i64 a0_0, .slice (some ad117) l0_1.length c0_1] 24 (0, 0)) (by (with_reducible repeat (first | refine blk_drewN ?_ _ | refine blk_drew ?_ | refine blk_alloc ?_ _)); exact BK115.out) hb); have n1_ := Aside0.mk (below_step (by repeat (first | (with_reducible first | exact HB.out | apply below_alloc | apply pw_below_drewN | apply below_drew1 | refine below_set ?_ GE115.out) | exact HB.out)) hb); have n2_ := Aside0.mk (hbox); have n3_ := Aside0.mk ((by rw [hg]; exact (below_size (by repeat (first | (with_reducible first | exact HB.out | apply below_alloc | apply pw_below_drewN | apply below_drew1 | refine below_set ?_ GE115.out) | exact HB.out))) : w.heap.size ≤ gb118)); have n4_ := Aside0.mk ((by rw [hg]; exact (below_size (by repeat (first | (with_reducible first | exact HB.out | apply below_alloc | apply pw_below_drewN | apply below_drew1 | refine below_set ?_ GE115.out) | exact HB.out))) : w.heap.size ≤ gb118)); have n5_ := Aside0.mk ((by rw [hg]; exact Nat.ne_of_lt (blk_lt (g := gb115) (o := .cells #[.int .i64 a0_0, .slice (some ad117) l0_1.length c0_1] 24 (0, 0)) (by (with_reducible repeat (first | refine blk_drewN ?_ _ | refine blk_drew ?_ | refine blk_alloc ?_ _)); exact BK115.out)) : gb115 ≠ gb118)); have n6_ := Aside0.mk ((by rw [hg]; exact Nat.ne_of_gt (blk_lt (g := gb115) (o := .cells #[.int .i64 a0_0, .slice (some ad117) l0_1.length c0_1] 24 (0, 0)) (by (with_reducible repeat (first | refine blk_drewN ?_ _ | refine blk_drew ?_ | refine blk_alloc ?_ _)); exact BK115.out)) : gb118 ≠ gb115)); clear BK115; clear HB; have BK115 := n0_; have HB := n1_; have BK118 := n2_; have GW118 := n3_; have GE118 := n4_; have NB115_118 := n5_; have NB118_115 := n6_; clear n0_ n1_ n2_ n3_ n4_ n5_ n6_; clear hb hbox hg; have hnb20 := NB118_115.out; have hnc20 := NB115_118.out; have hcz21_0 : w19.cell? ⟨gb118, 0, none⟩ = some (.int .i64 0) := (blk_cell BK118.out 0).trans rfl; have hcz21_1 : w19.cell? ⟨gb118, 1, none⟩ = some (.int .i64 0) := (blk_cell BK118.out 1).trans rfl; have hcz21_2 : w19.cell? ⟨gb118, 2, none⟩ = some (.int .i64 0) := (blk_cell BK118.out 2).trans rfl; have hfz21_0 := blk_frozen BK118.out 0; have hfz21_1 := blk_frozen BK118.out 1; have hfz21_2 := blk_frozen BK118.out 2))
                        go_ret
                        exact ⟨by first | rfl | (rw [HR_.out] <;> rfl) | (simp [errW_none, errW_some] <;> rfl) | (simp [*, errW_none, errW_some] <;> rfl), by repeat (first | (with_reducible first | exact HB.out | apply below_alloc | apply pw_below_drewN | apply below_drew1 | refine below_set ?_ GE115.out | refine below_set ?_ GE118.out) | exact HB.out)⟩
                      · rw [if_neg c18] at H
                        have c18b0 : decide ((Int.tmod a1 a0_0) < (wrap64 (((rd_T46 l0_1 x21_2).f1) + ((rd_T46 l0_1 x21_2).f2)))) = false := decide_eq_false c18
                        clear c18
                        have H' := Aside0.mk H
                        clear H
                        have p117 : 0 ≤ (x21_2 : Int) := of_decide_eq_true (by first | (with_reducible assumption) | assumption)
                        have q117 : x21_2 < (l0_1.length : Int) := of_decide_eq_true (by first | (with_reducible assumption) | assumption)
                        obtain ⟨ad117, e117, hx117_0, hx117_1, hx117_2⟩ := at_T46 HR0_1.out x21_2 p117 q117
                        cases e117
                        replace hx117_0 := (HB.out.cell (World.block_lt_of_cell? w _ hx117_0)).trans hx117_0
                        replace hx117_1 := (HB.out.cell (World.block_lt_of_cell? w _ hx117_1)).trans hx117_1
                        replace hx117_2 := (HB.out.cell (World.block_lt_of_cell? w _ hx117_2)).trans hx117_2
                        replace p117 := eq_true p117
                        replace q117 := eq_true q117
                        go_wp2_with (first | ((with_reducible refine gate_dst (N := 6) rfl ?_); refine box_event ?hg (N := 6) ?hd (cs := #[.int .i64 0, .int .i64 0, .int .i64 0]) (t := 46) ?hr ?_; (case hd => rfl); (case hg => rfl); (case hr => first | (go_simp; done) | (go_simp; rfl)); intro gb118 hg w22 hbox hb; have n0_ := Aside0.mk (blk_below (g := gb115) (o := .cells #[.int .i64 a0_0, .slice (some ad117) l0_1.length c0_1] 24 (0, 0)) (by (with_reducible repeat (first | refine blk_drewN ?_ _ | refine blk_drew ?_ | refine blk_alloc ?_ _)); exact BK115.out) hb); have n1_ := Aside0.mk (below_step (by repeat (first | (with_reducible first | exact HB.out | apply below_alloc | apply pw_below_drewN | apply below_drew1 | refine below_set ?_ GE115.out) | exact HB.out)) hb); have n2_ := Aside0.mk (hbox); have n3_ := Aside0.mk ((by rw [hg]; exact (below_size (by repeat (first | (with_reducible first | exact HB.out | apply below_alloc | apply pw_below_drewN | apply below_drew1 | refine below_set ?_ GE115.out) | exact HB.out))) : w.heap.size ≤ gb118)); have n4_ := Aside0.mk ((by rw [hg]; exact (below_size (by repeat (first | (with_reducible first | exact HB.out | apply below_alloc | apply pw_below_drewN | apply below_drew1 | refine below_set ?_ GE115.out) | exact HB.out))) : w.heap.size ≤ gb118)); have n5_ := Aside0.mk ((by rw [hg]; exact Nat.ne_of_lt (blk_lt (g := gb115) (o := .cells #[.int .i64 a0_0, .slice (some ad117) l0_1.length c0_1] 24 (0, 0)) (by (with_reducible repeat (first | refine blk_drewN ?_ _ | refine blk_drew ?_ | refine blk_alloc ?_ _)); exact BK115.out)) : gb115 ≠ gb118)); have n6_ := Aside0.mk ((by rw [hg]; exact Nat.ne_of_gt (blk_lt (g := gb115) (o := .cells #[.int .i64 a0_0, .slice (some ad117) l0_1.length c0_1] 24 (0, 0)) (by (with_reducible repeat (first | refine blk_drewN ?_ _ | refine blk_drew ?_ | refine blk_alloc ?_ _)); exact BK115.out)) : gb118 ≠ gb115)); clear BK115; clear HB; have BK115 := n0_; have HB := n1_; have BK118 := n2_; have GW118 := n3_; have GE118 := n4_; have NB115_118 := n5_; have NB118_115 := n6_; clear n0_ n1_ n2_ n3_ n4_ n5_ n6_; clear hb hbox hg; have hnb23 := NB118_115.out; have hnc23 := NB115_118.out; have hcz24_0 : w22.cell? ⟨gb118, 0, none⟩ = some (.int .i64 0) := (blk_cell BK118.out 0).trans rfl; have hcz24_1 : w22.cell? ⟨gb118, 1, none⟩ = some (.int .i64 0) := (blk_cell BK118.out 1).trans rfl; have hcz24_2 : w22.cell? ⟨gb118, 2, none⟩ = some (.int .i64 0) := (blk_cell BK118.out 2).trans rfl; have hfz24_0 := blk_frozen BK118.out 0; have hfz24_1 := blk_frozen BK118.out 1; have hfz24_2 := blk_frozen BK118.out 2))
                        go_roundg k2
                        case measure => have := HJ2.out; have := HK2.out; omega
                        case rel => exact ⟨(wrap64 (x21_2 + 1)), (by first | rfl | (simp; done) | (simp [*]; done)), H', ⟨by have := HJ2.out; have := HK2.out; omega⟩, ⟨by (with_reducible repeat (first | refine blk_drewN ?_ _ | refine blk_drew ?_ | refine blk_alloc ?_ _)); refine blk_far ?_ NB115_118.out _; (with_reducible repeat (first | refine blk_drewN ?_ _ | refine blk_drew ?_ | refine blk_alloc ?_ _)); refine blk_far ?_ NB115_118.out _; (with_reducible repeat (first | refine blk_drewN ?_ _ | refine blk_drew ?_ | refine blk_alloc ?_ _)); refine blk_far ?_ NB115_118.out _; (with_reducible repeat (first | refine blk_drewN ?_ _ | refine blk_drew ?_ | refine blk_alloc ?_ _)); exact BK115.out⟩, ⟨by repeat (first | (with_reducible first | exact HB.out | apply below_alloc | apply pw_below_drewN | apply below_drew1 | refine below_set ?_ GE115.out | refine below_set ?_ GE118.out) | exact HB.out)⟩⟩
                    · rw [if_neg c17] at H
                      have c17b0 : decide (((rd_T46 l0_1 x21_2).f1) ≤ (Int.tmod a1 a0_0)) = false := decide_eq_false c17
                      clear c17
                      have H' := Aside0.mk H
                      clear H
                      have p117 : 0 ≤ (x21_2 : Int) := of_decide_eq_true (by first | (with_reducible assumption) | assumption)
                      have q117 : x21_2 < (l0_1.length : Int) := of_decide_eq_true (by first | (with_reducible assumption) | assumption)
                      obtain ⟨ad117, e117, hx117_0, hx117_1, hx117_2⟩ := at_T46 HR0_1.out x21_2 p117 q117
                      cases e117
                      replace hx117_0 := (HB.out.cell (World.block_lt_of_cell? w _ hx117_0)).trans hx117_0
                      replace hx117_1 := (HB.out.cell (World.block_lt_of_cell? w _ hx117_1)).trans hx117_1
                      replace hx117_2 := (HB.out.cell (World.block_lt_of_cell? w _ hx117_2)).trans hx117_2
                      replace p117 := eq_true p117
                      replace q117 := eq_true q117
                      go_wp2_with (first | ((with_reducible refine gate_dst (N := 6) rfl ?_); refine box_event ?hg (N := 6) ?hd (cs := #[.int .i64 0, .int .i64 0, .int .i64 0]) (t := 46) ?hr ?_; (case hd => rfl); (case hg => rfl); (case hr => first | (go_simp; done) | (go_simp; rfl)); intro gb118 hg w25 hbox hb; have n0_ := Aside0.mk (blk_below (g := gb115) (o := .cells #[.int .i64 a0_0, .slice (some ad117) l0_1.length c0_1] 24 (0, 0)) (by (with_reducible repeat (first | refine blk_drewN ?_ _ | refine blk_drew ?_ | refine blk_alloc ?_ _)); exact BK115.out) hb); have n1_ := Aside0.mk (below_step (by repeat (first | (with_reducible first | exact HB.out | apply below_alloc | apply pw_below_drewN | apply below_drew1 | refine below_set ?_ GE115.out) | exact HB.out)) hb); have n2_ := Aside0.mk (hbox); have n3_ := Aside0.mk ((by rw [hg]; exact (below_size (by repeat (first | (with_reducible first | exact HB.out | apply below_alloc | apply pw_below_drewN | apply below_drew1 | refine below_set ?_ GE115.out) | exact HB.out))) : w.heap.size ≤ gb118)); have n4_ := Aside0.mk ((by rw [hg]; exact (below_size (by repeat (first | (with_reducible first | exact HB.out | apply below_alloc | apply pw_below_drewN | apply below_drew1 | refine below_set ?_ GE115.out) | exact HB.out))) : w.heap.size ≤ gb118)); have n5_ := Aside0.mk ((by rw [hg]; exact Nat.ne_of_lt (blk_lt (g := gb115) (o := .cells #[.int .i64 a0_0, .slice (some ad117) l0_1.length c0_1] 24 (0, 0)) (by (with_reducible repeat (first | refine blk_drewN ?_ _ | refine blk_drew ?_ | refine blk_alloc ?_ _)); exact BK115.out)) : gb115 ≠ gb118)); have n6_ := Aside0.mk ((by rw [hg]; exact Nat.ne_of_gt (blk_lt (g := gb115) (o := .cells #[.int .i64 a0_0, .slice (some ad117) l0_1.length c0_1] 24 (0, 0)) (by (with_reducible repeat (first | refine blk_drewN ?_ _ | refine blk_drew ?_ | refine blk_alloc ?_ _)); exact BK115.out)) : gb118 ≠ gb115)); clear BK115; clear HB; have BK115 := n0_; have HB := n1_; have BK118 := n2_; have GW118 := n3_; have GE118 := n4_; have NB115_118 := n5_; have NB118_115 := n6_; clear n0_ n1_ n2_ n3_ n4_ n5_ n6_; clear hb hbox hg; have hnb26 := NB118_115.out; have hnc26 := NB115_118.out; have hcz27_0 : w25.cell? ⟨gb118, 0, none⟩ = some (.int .i64 0) := (blk_cell BK118.out 0).trans rfl; have hcz27_1 : w25.cell? ⟨gb118, 1, none⟩ = some (.int .i64 0) := (blk_cell BK118.out 1).trans rfl; have hcz27_2 : w25.cell? ⟨gb118, 2, none⟩ = some (.int .i64 0) := (blk_cell BK118.out 2).trans rfl; have hfz27_0 := blk_frozen BK118.out 0; have hfz27_1 := blk_frozen BK118.out 1; have hfz27_2 := blk_frozen BK118.out 2))
                      go_roundg k2
                      case measure => have := HJ2.out; have := HK2.out; omega
                      case rel => exact ⟨(wrap64 (x21_2 + 1)), (by first | rfl | (simp; done) | (simp [*]; done)), H', ⟨by have := HJ2.out; have := HK2.out; omega⟩, ⟨by (with_reducible repeat (first | refine blk_drewN ?_ _ | refine blk_drew ?_ | refine blk_alloc ?_ _)); refine blk_far ?_ NB115_118.out _; (with_reducible repeat (first | refine blk_drewN ?_ _ | refine blk_drew ?_ | refine blk_alloc ?_ _)); refine blk_far ?_ NB115_118.out _; (with_reducible repeat (first | refine blk_drewN ?_ _ | refine blk_drew ?_ | refine blk_alloc ?_ _)); refine blk_far ?_ NB115_118.out _; (with_reducible repeat (first | refine blk_drewN ?_ _ | refine blk_drew ?_ | refine blk_alloc ?_ _)); exact BK115.out⟩, ⟨by repeat (first | (with_reducible first | exact HB.out | apply below_alloc | apply pw_below_drewN | apply below_drew1 | refine below_set ?_ GE115.out | refine below_set ?_ GE118.out) | exact HB.out)⟩⟩
                  · rw [if_neg c16] at H
                    exact absurd H (by simp)
                · rw [if_neg c15] at H
                  exact absurd H (by simp)
              · rw [if_neg c14] at H
                have c14b0 : decide (x21_2 < (l0_1.length : Int)) = false := decide_eq_false c14
                clear c14
                obtain rfl := Option.some.inj H
                go_wp2
                go_ret
                exact ⟨by first | rfl | (rw [HR_.out] <;> rfl) | (simp [errW_none, errW_some] <;> rfl) | (simp [*, errW_none, errW_some] <;> rfl), by repeat (first | (with_reducible first | exact HB.out | apply below_alloc | apply pw_below_drewN | apply below_drew1 | refine below_set ?_ GE115.out) | exact HB.out)⟩

/-! ### table_Of: function 21 -/
-- OWN
def table_OfAdd.lst (ws : List S46) : S46 := rd_T46 ws ((ws.length : Int) - 1)
def table_OfAdd.f (ws : List S46) (last at_ part : Int) : List S46 := if part = last then (if part = -1 then ws else ws.set ((ws.length : Int) - 1).toNat ⟨(table_OfAdd.lst ws).f0, (table_OfAdd.lst ws).f1, (table_OfAdd.lst ws).f2 + 1⟩) else (if part = -1 then ws else ws ++ [⟨part, at_, 1⟩])
set_option maxHeartbeats 4000000 in
set_option maxRecDepth 100000 in
theorem table_OfAdd.calls (ws : List S46) (last frame at_ part : Int) (base gl gt : Nat) (v : Value) (w : World)
    (hgl : w.heap[gl]? = some (.cells #[.int .i64 last] 3 (0, 0))) (hgt : w.heap[gt]? = some (.cells #[.int .i64 frame, v] 24 (0, 0))) (hbl : base ≤ gl) (hbt : base ≤ gt) (hr : Kd.R k46 46 w base (fun _ => True) v ws) (hlen : ws.length < 1000000)
    (hpos : part = last → part ≠ -1 → 0 < ws.length ∧ 0 ≤ (table_OfAdd.lst ws).f2 ∧ (table_OfAdd.lst ws).f2 < 1000000) :
    Calls Try.prog 37 #[.int .i64 at_, .int .i64 part, .pointer (some ⟨gl, 0, none⟩), .pointer (some ⟨gt, 0, none⟩)] w fun e w' => e = .returned (.tuple #[]) ∧ ∃ v', w'.heap[gt]? = some (.cells #[.int .i64 frame, v'] 24 (0, 0)) ∧ w'.heap[gl]? = some (.cells #[.int .i64 part] 3 (0, 0)) ∧ Kd.R k46 46 w' base (fun _ => True) v' (table_OfAdd.f ws last at_ part) ∧ Below base w w' ∧ (∀ k, k < w.heap.size → k ≠ gl → k ≠ gt → some k ≠ v.ownBlock → w'.heap[k]? = w.heap[k]?) ∧ (v'.ownBlock = v.ownBlock ∨ ∃ b, v'.ownBlock = some b ∧ w.heap.size ≤ b) := by
  have hu24 := Try.underlying24
  have hu46 := Try.underlying46
  have hne : gl ≠ gt := blk_ne hgl hgt (by decide)
  have hcl := (blk_cell hgl 0).trans rfl
  have hfl := blk_frozen hgl 0
  have hgll := blk_lt hgl
  obtain ⟨A, c, rfl, hc, hC⟩ := Kd.R_reads hr
  have hct1 : w.cell? ⟨gt, 1, none⟩ = some (.slice A ws.length c) := (blk_cell hgt 1).trans rfl
  have hft1 := blk_frozen hgt 1
  by_cases cp : part = last
  · have cpb : (part == last) = true := beq_iff_eq.mpr cp
    by_cases cn : part = -1
    · have cnb : (part != -1) = false := bne_eq_false_iff_eq.mpr cn
      have ef : table_OfAdd.f ws last at_ part = ws := by unfold table_OfAdd.f; rw [if_pos cp, if_pos cn]
      rw [ef]
      clear cp cn hpos
      obtain ⟨w2, hw2⟩ : ∃ w2, w2 = w := ⟨_, rfl⟩
      have h2l_ := hgl
      have h2t_ := hgt
      have h2r_ := hr
      have h2b_ := Below.refl base w
      have h2k_ : ∀ k, k < w.heap.size → k ≠ gl → k ≠ gt → some k ≠ (Value.slice A ws.length c).ownBlock → w.heap[k]? = w.heap[k]? := fun _ _ _ _ _ => rfl
      have h2o_ : (Value.slice A ws.length c).ownBlock = (Value.slice A ws.length c).ownBlock ∨ ∃ b, (Value.slice A ws.length c).ownBlock = some b ∧ w.heap.size ≤ b := .inl rfl
      have HL2 := Aside0.mk h2l_; have HT2 := Aside0.mk h2t_; have HR2 := Aside0.mk h2r_; have HB2 := Aside0.mk h2b_; have HK2 := Aside0.mk h2k_; have HO2 := Aside0.mk h2o_
      clear h2l_ h2t_ h2r_ h2b_ h2k_ h2o_
      go_enter Try.func37, Try.ntmps37
      go_wp2
      first | go_end0 | ((try simp only [Exit.inBlock, Exit.then]); refine bodyPost_ret (results_none rfl _ _ _) rfl ?_)
      have HL3 := blk_set HL2.out 0 (.int .i64 part)
      have HT3 := blk_far HT2.out (p := ⟨gl, 0, none⟩) (Ne.symm hne) (.int .i64 part)
      have HR3 := Kd.R_set HR2.out HL2.out (by decide) 0 (.int .i64 part)
      have HB3 := HB2.out.setCell (p := ⟨gl, 0, none⟩) hbl (.int .i64 part)
      exact ⟨rfl, .slice A ws.length c, HT3, HL3, HR3, HB3, fun k h1 h2 h3 h4 => Below.heap_setCell _ _ _ k h2, .inl rfl⟩
    · have cnb : (part != -1) = true := bne_iff_ne.mpr cn
      have ef : table_OfAdd.f ws last at_ part = ws.set ((ws.length : Int) - 1).toNat ⟨(table_OfAdd.lst ws).f0, (table_OfAdd.lst ws).f1, (table_OfAdd.lst ws).f2 + 1⟩ := by unfold table_OfAdd.f; rw [if_pos cp, if_neg cn]
      obtain ⟨hl, hb0, hb1⟩ := hpos cp cn
      rw [ef]
      clear cp cn hpos
      obtain ⟨g, cap, he, hg0, hglt, cells, hgc⟩ := Kd.R_form hr hl
      obtain ⟨rfl, rfl⟩ : A = some ⟨g, 0, none⟩ ∧ c = cap := by simpa using he
      obtain ⟨ad, e1, h0, h1, h2⟩ := at_T46 hC ((ws.length : Int) - 1) (by omega) (by omega)
      obtain rfl : ad = ⟨g, 0, none⟩ := by simpa using e1.symm
      clear e1 he
      have hin : ((ws.length : Int) - 1).toNat = ws.length - 1 := by omega
      rw [hin, add_plain] at h0 h1 h2
      replace h0 : w.cell? ⟨g, (ws.length - 1) * 3, none⟩ = some (.int .i64 (table_OfAdd.lst ws).f0) := by simpa [table_OfAdd.lst] using h0
      replace h1 : w.cell? ⟨g, (ws.length - 1) * 3 + 1, none⟩ = some (.int .i64 (table_OfAdd.lst ws).f1) := by simpa [table_OfAdd.lst] using h1
      replace h2 : w.cell? ⟨g, (ws.length - 1) * 3 + 2, none⟩ = some (.int .i64 (table_OfAdd.lst ws).f2) := by simpa [table_OfAdd.lst] using h2
      have hp1 := eq_true (show (1 : Int) ≤ (ws.length : Int) by omega)
      have hp2 := eq_true (show (ws.length : Int) - 1 < (ws.length : Int) by omega)
      have hp3 := eq_true (show (0 : Int) ≤ (ws.length : Int) - 1 by omega)
      have hfz : w.frozen? ⟨g, (ws.length - 1) * 3 + 2, none⟩ = false := blk_frozen hgc _
      have hgn : g ≠ gl := Ne.symm (blk_ne hgl hgc (by decide))
      have hgn2 : g ≠ gt := Ne.symm (blk_ne hgt hgc (by decide))
      have hcc : ∀ (j : Nat) (u : Value), [Value.int .i64 (table_OfAdd.lst ws).f0, Value.int .i64 (table_OfAdd.lst ws).f1, Value.int .i64 (table_OfAdd.lst ws).f2][j]? = some u → w.cell? ⟨g, ((ws.length : Int) - 1).toNat * k46.sz + j, none⟩ = some u := by
        intro j u hj
        rw [hin]
        match j with
        | 0 => exact (Option.some.inj hj) ▸ h0
        | 1 => exact (Option.some.inj hj) ▸ h1
        | 2 => exact (Option.some.inj hj) ▸ h2
        | j + 3 => exact absurd hj (by simp)
      have hseg := (Kd.R_seg hr ((ws.length : Int) - 1) (by omega) (by omega) (c := [.int .i64 (table_OfAdd.lst ws).f0, .int .i64 (table_OfAdd.lst ws).f1, .int .i64 (table_OfAdd.lst ws).f2]) (j := 2) (seg := [.int .i64 ((table_OfAdd.lst ws).f2 + 1)]) (x' := ⟨(table_OfAdd.lst ws).f0, (table_OfAdd.lst ws).f1, (table_OfAdd.lst ws).f2 + 1⟩) (okp := fun _ => False) rfl hcc (Nat.le_refl 3) (k46_mkM _ _ _ _) (fun _ h => h.elim)).1
      have h2r_ : Kd.R k46 46 (w.setCell ⟨g, (ws.length - 1) * 3 + 2, none⟩ (.int .i64 ((table_OfAdd.lst ws).f2 + 1))) base (fun _ => True) (.slice (some ⟨g, 0, none⟩) ws.length c) (ws.set ((ws.length : Int) - 1).toNat ⟨(table_OfAdd.lst ws).f0, (table_OfAdd.lst ws).f1, (table_OfAdd.lst ws).f2 + 1⟩) := by
        rw [hin] at hseg ⊢
        exact hseg
      have h2l_ := blk_far hgl (p := ⟨g, (ws.length - 1) * 3 + 2, none⟩) (Ne.symm hgn) (.int .i64 ((table_OfAdd.lst ws).f2 + 1))
      have h2t_ := blk_far hgt (p := ⟨g, (ws.length - 1) * 3 + 2, none⟩) (Ne.symm hgn2) (.int .i64 ((table_OfAdd.lst ws).f2 + 1))
      have h2b_ := (Below.refl base w).setCell (p := ⟨g, (ws.length - 1) * 3 + 2, none⟩) hg0 (.int .i64 ((table_OfAdd.lst ws).f2 + 1))
      have h2k_ : ∀ k, k < w.heap.size → k ≠ gl → k ≠ gt → some k ≠ (Value.slice (some ⟨g, 0, none⟩) ws.length c).ownBlock → (w.setCell ⟨g, (ws.length - 1) * 3 + 2, none⟩ (.int .i64 ((table_OfAdd.lst ws).f2 + 1))).heap[k]? = w.heap[k]? := fun k _ _ _ h4 => Below.heap_setCell _ _ _ k (fun e => h4 (by rw [e]; rfl))
      have h2o_ : (Value.slice (some ⟨g, 0, none⟩) ws.length c).ownBlock = (Value.slice (some ⟨g, 0, none⟩) ws.length c).ownBlock ∨ ∃ b, (Value.slice (some ⟨g, 0, none⟩) ws.length c).ownBlock = some b ∧ w.heap.size ≤ b := .inl rfl
      obtain ⟨lf2, elf⟩ : ∃ x, x = (table_OfAdd.lst ws).f2 := ⟨_, rfl⟩
      clear h0 h1 hcc hseg
      have HL2 := Aside0.mk h2l_; have HT2 := Aside0.mk h2t_; have HR2 := Aside0.mk h2r_; have HB2 := Aside0.mk h2b_; have HK2 := Aside0.mk h2k_; have HO2 := Aside0.mk h2o_
      clear h2l_ h2t_ h2r_ h2b_ h2k_ h2o_
      go_enter Try.func37, Try.ntmps37
      go_wp2
      first | go_end0 | ((try simp only [Exit.inBlock, Exit.then]); refine bodyPost_ret (results_none rfl _ _ _) rfl ?_)
      have HL3 := blk_set HL2.out 0 (.int .i64 part)
      have HT3 := blk_far HT2.out (p := ⟨gl, 0, none⟩) (Ne.symm hne) (.int .i64 part)
      have HR3 := Kd.R_set HR2.out HL2.out (by decide) 0 (.int .i64 part)
      have HB3 := HB2.out.setCell (p := ⟨gl, 0, none⟩) hbl (.int .i64 part)
      try rw [hin] at HR3
      exact ⟨rfl, .slice (some ⟨g, 0, none⟩) ws.length c, HT3, HL3, HR3, HB3, fun k h1 h2 h3 h4 => (Below.heap_setCell _ _ _ k h2).trans (HK2.out k h1 h2 h3 h4), .inl rfl⟩
  · have cpb : (part == last) = false := beq_eq_false_iff_ne.mpr cp
    by_cases cn : part = -1
    · have cnb : (part != -1) = false := bne_eq_false_iff_eq.mpr cn
      have ef : table_OfAdd.f ws last at_ part = ws := by unfold table_OfAdd.f; rw [if_neg cp, if_pos cn]
      rw [ef]
      clear cp cn hpos
      obtain ⟨w2, hw2⟩ : ∃ w2, w2 = w := ⟨_, rfl⟩
      have h2l_ := hgl
      have h2t_ := hgt
      have h2r_ := hr
      have h2b_ := Below.refl base w
      have h2k_ : ∀ k, k < w.heap.size → k ≠ gl → k ≠ gt → some k ≠ (Value.slice A ws.length c).ownBlock → w.heap[k]? = w.heap[k]? := fun _ _ _ _ _ => rfl
      have h2o_ : (Value.slice A ws.length c).ownBlock = (Value.slice A ws.length c).ownBlock ∨ ∃ b, (Value.slice A ws.length c).ownBlock = some b ∧ w.heap.size ≤ b := .inl rfl
      have HL2 := Aside0.mk h2l_; have HT2 := Aside0.mk h2t_; have HR2 := Aside0.mk h2r_; have HB2 := Aside0.mk h2b_; have HK2 := Aside0.mk h2k_; have HO2 := Aside0.mk h2o_
      clear h2l_ h2t_ h2r_ h2b_ h2k_ h2o_
      go_enter Try.func37, Try.ntmps37
      go_wp2
      first | go_end0 | ((try simp only [Exit.inBlock, Exit.then]); refine bodyPost_ret (results_none rfl _ _ _) rfl ?_)
      have HL3 := blk_set HL2.out 0 (.int .i64 part)
      have HT3 := blk_far HT2.out (p := ⟨gl, 0, none⟩) (Ne.symm hne) (.int .i64 part)
      have HR3 := Kd.R_set HR2.out HL2.out (by decide) 0 (.int .i64 part)
      have HB3 := HB2.out.setCell (p := ⟨gl, 0, none⟩) hbl (.int .i64 part)
      exact ⟨rfl, .slice A ws.length c, HT3, HL3, HR3, HB3, fun k h1 h2 h3 h4 => Below.heap_setCell _ _ _ k h2, .inl rfl⟩
    · have cnb : (part != -1) = true := bne_iff_ne.mpr cn
      have ef : table_OfAdd.f ws last at_ part = ws ++ [⟨part, at_, 1⟩] := by unfold table_OfAdd.f; rw [if_neg cp, if_neg cn]
      rw [ef]
      clear cp cn hpos
      go_enter Try.func37, Try.ntmps37
      go_wp2_with (first | ((with_reducible refine gate_builtin (b := .append) (xs := #[.tmp 28, .tmp 32]) rfl ?_); at_builtin; refine Kd.R_append k46 (w0 := w) base rfl (.tmp 28) (.tmp 32) 22 46 (.agg #[(.int .i64 0), (.int .i64 0), (.int .i64 0)]) 24 rfl Try.underlying22 info46 rfl (by decide) (by omega) (.slice A ws.length c) ws (⟨part, at_, 1⟩ : S46) [.int .i64 part, .int .i64 at_, .int .i64 1] (fun _ => True) (fun _ => False) rfl rfl (k46_mkM _ _ _ _) (fun _ hk => hk.elim) ?aF hr (Below.refl base w) (by omega) ?aL ?_; (case aF => exact fun _ _ => trivial); (case aL => omega); intro v1 w1 ho hbb hg hat; obtain ⟨A1, c1, rfl⟩ := Kd.R_slice ho; have hgt1 := blk_grown hgt hg (Kd.R_ne hr hgt (by decide)); have hgl1 := blk_grown hgl hg (Kd.R_ne hr hgl (by decide)); have hct2 := (blk_cell hgt1 1).trans rfl; have hft2 := blk_frozen hgt1 1; have hcl2 := (blk_cell hgl1 0).trans rfl; have hfl2 := blk_frozen hgl1 0; have HH := Aside0.mk (show _ ∧ _ ∧ _ ∧ _ ∧ _ ∧ _ from ⟨ho, hbb, hg, hat, hgt1, hgl1⟩); clear ho hbb hg hat hgt1 hgl1) )
      obtain ⟨ho, hbb, hg, hat, hgt1, hgl1⟩ := HH.out
      simp only [List.length_append, List.length_cons, List.length_nil, Nat.zero_add] at ho hat
      have h2r_ := Kd.R_set ho hgt1 (by decide) 1 (.slice A1 (ws.length + 1) c1)
      have h2t_ := blk_set hgt1 1 (.slice A1 (ws.length + 1) c1)
      have h2l_ := blk_far hgl1 (p := ⟨gt, 1, none⟩) hne (.slice A1 (ws.length + 1) c1)
      have h2b_ := hbb.setCell (p := ⟨gt, 1, none⟩) hbt (.slice A1 (ws.length + 1) c1)
      have h2k_ : ∀ k, k < w.heap.size → k ≠ gl → k ≠ gt → some k ≠ (Value.slice A ws.length c).ownBlock → (w1.setCell ⟨gt, 1, none⟩ (.slice A1 (ws.length + 1) c1)).heap[k]? = w.heap[k]? := fun k h1 h2 h3 h4 => (Below.heap_setCell _ _ _ k h3).trans (hg.block k h1 h4)
      have HL2 := Aside0.mk h2l_; have HT2 := Aside0.mk h2t_; have HR2 := Aside0.mk h2r_; have HB2 := Aside0.mk h2b_; have HK2 := Aside0.mk h2k_; have HO2 := Aside0.mk hat
      first | go_end0 | ((try simp only [Exit.inBlock, Exit.then]); refine bodyPost_ret (results_none rfl _ _ _) rfl ?_)
      have HL3 := blk_set HL2.out 0 (.int .i64 part)
      have HT3 := blk_far HT2.out (p := ⟨gl, 0, none⟩) (Ne.symm hne) (.int .i64 part)
      have HR3 := Kd.R_set HR2.out HL2.out (by decide) 0 (.int .i64 part)
      have HB3 := HB2.out.setCell (p := ⟨gl, 0, none⟩) hbl (.int .i64 part)
      exact ⟨rfl, (.slice A1 (ws.length + 1) c1), HT3, HL3, HR3, HB3, fun k h1 h2 h3 h4 => (Below.heap_setCell _ _ _ k h2).trans (HK2.out k h1 h2 h3 h4), HO2.out⟩
def table_Of.l0 : Nat → List Int → Int → List S46 → Int → Option (Int × List S46 × Int)
  | 0, _, _, _, _ => none
  | k + 1, x, i, ws, last => if i < (x.length : Int) then (if rd x i < -1 then some (0, [], 1) else (if rd x i ≥ 4 then some (0, [], 1) else (if ws.length < 1000000 ∧ (rd x i = last → rd x i ≠ -1 → 0 < ws.length ∧ 0 ≤ (table_OfAdd.lst ws).f2 ∧ (table_OfAdd.lst ws).f2 < 1000000) then table_Of.l0 k x (i + 1) (table_OfAdd.f ws last i (rd x i)) (rd x i) else none))) else some ((x.length : Int), ws, 0)
def table_Of.f (k : Nat) (l0 : List Int) : Option (Int × List S46 × Int) := if (l0.length : Int) = 0 then some (0, [], 1) else (if (l0.length : Int) > 240 then some (0, [], 1) else table_Of.l0 k l0 0 [] (-1))
theorem table_Of.mono_l : ∀ k, (∀ y0 y1 y2 y3, LeO (table_Of.l0 k y0 y1 y2 y3) (table_Of.l0 (k + 1) y0 y1 y2 y3))
  | 0 => fun _ _ _ _ r h => by simp [table_Of.l0] at h
  | k + 1 => by
    have ih0 := table_Of.mono_l k
    intro y0 y1 y2 y3
    unfold table_Of.l0
    exact LeO.ite (LeO.ite (LeO.refl _) (LeO.ite (LeO.refl _) (LeO.ite (ih0 _ _ _ _) (LeO.none _)))) (LeO.refl _)
theorem table_Of.mono : ∀ a0 k, LeO (table_Of.f k a0) (table_Of.f (k + 1) a0) := fun a0 k => LeO.ite (LeO.refl _) (LeO.ite (LeO.refl _) (table_Of.mono_l k _ _ _ _))
set_option maxHeartbeats 4000000 in
set_option maxRecDepth 100000 in
theorem table_Of.calls (k : Nat) (A0 : Option Addr) (c0 : Nat) (l0 : List Int) (r1 : Int) (r2 : List (S46)) (r3 : Int) (w : World) (hr0 : Kd.C (Kd.int .i64) w A0 l0.length l0) (hc0 : l0.length ≤ c0) (h : table_Of.f k l0 = some (r1, r2, r3)) :
    Calls Try.prog 21 #[.slice A0 l0.length c0] w fun e w' => ∃ v1_ : Value, e = .returned (.tuple #[.agg #[.int .i64 r1, v1_], .int .i64 r3]) ∧ Kd.R k46 46 w' w.heap.size (fun _ => True) v1_ r2 ∧ Below w.heap.size w w' := by
  have hu24 := Try.underlying24
  have HR0 := Aside0.mk hr0
  have HC0 := Aside0.mk hc0
  clear hr0 hc0
  have HB := Aside0.mk (Below.refl w.heap.size w)
  have hmf : ∀ (fn : Fn) (first cap : Array Value) (w : World), (Instr.makeFunc fn first cap).run Try.prog w = .ok (.func fn first cap) w := fun _ _ _ _ => rfl
  unfold table_Of.f at h
  by_cases c1 : (l0.length : Int) = 0
  · rw [if_pos c1] at h
    have c1b : ((l0.length : Int) == 0) = true := beq_iff_eq.mpr c1
    clear c1
    obtain ⟨rfl, rfl, rfl⟩ : 0 = r1 ∧ [] = r2 ∧ 1 = r3 := by simpa using h
    clear h
    go_enter Try.func21, Try.ntmps21
    go_wp2_with ((with_reducible refine gate_dst (N := 2) rfl ?_); refine box_event ?hg (N := 2) ?hd (cs := #[.int .i64 0, .slice none 0 0]) (t := 24) ?hr ?_; (case hd => rfl); (case hg => rfl); (case hr => first | (go_simp; done) | (go_simp; rfl)); intro g2 hg w1 hbox hb; have G2 := Aside0.mk (show w.heap.size ≤ g2 from Nat.le_of_eq hg.symm); have H2 := Aside0.mk hbox; replace HB := Aside0.mk (below_step HB.out hb); clear hg hbox hb; have hc20 := (blk_cell H2.out 0).trans rfl; have hc21 := (blk_cell H2.out 1).trans rfl; have hf20 := blk_frozen H2.out 0; have hf21 := blk_frozen H2.out 1)
    have H20 := H2
    replace H2 := Aside0.mk (blk_set (blk_set H2.out 0 (.int .i64 0)) 1 (.slice none 0 0))
    replace HB := Aside0.mk ((HB.out.setCell (p := ⟨g2, 0, none⟩) G2.out (.int .i64 0)).setCell (p := ⟨g2, 1, none⟩) G2.out (.slice none 0 0))
    refine bodyPost_ret (results_ct rfl _ _ g2 24 #[.int .i64 0, .slice none 0 0] (0, 0) _ rfl H2.out Try.underlying24 rfl (by kernel_rfl)) rfl ?_
    exact ⟨_, rfl, Kd.R_nil _ _ _ _ _, HB.out⟩
  · rw [if_neg c1] at h
    have c1b : ((l0.length : Int) == 0) = false := beq_eq_false_iff_ne.mpr c1
    by_cases c2 : (l0.length : Int) > 240
    · rw [if_pos c2] at h
      have c2b : decide (240 < (l0.length : Int)) = true := decide_eq_true c2
      clear c1 c2
      obtain ⟨rfl, rfl, rfl⟩ : 0 = r1 ∧ [] = r2 ∧ 1 = r3 := by simpa using h
      clear h
      go_enter Try.func21, Try.ntmps21
      go_wp2_with ((with_reducible refine gate_dst (N := 2) rfl ?_); refine box_event ?hg (N := 2) ?hd (cs := #[.int .i64 0, .slice none 0 0]) (t := 24) ?hr ?_; (case hd => rfl); (case hg => rfl); (case hr => first | (go_simp; done) | (go_simp; rfl)); intro g2 hg w1 hbox hb; have G2 := Aside0.mk (show w.heap.size ≤ g2 from Nat.le_of_eq hg.symm); have H2 := Aside0.mk hbox; replace HB := Aside0.mk (below_step HB.out hb); clear hg hbox hb; have hc20 := (blk_cell H2.out 0).trans rfl; have hc21 := (blk_cell H2.out 1).trans rfl; have hf20 := blk_frozen H2.out 0; have hf21 := blk_frozen H2.out 1)
      have H20 := H2
      replace H2 := Aside0.mk (blk_set (blk_set H2.out 0 (.int .i64 0)) 1 (.slice none 0 0))
      replace HB := Aside0.mk ((HB.out.setCell (p := ⟨g2, 0, none⟩) G2.out (.int .i64 0)).setCell (p := ⟨g2, 1, none⟩) G2.out (.slice none 0 0))
      refine bodyPost_ret (results_ct rfl _ _ g2 24 #[.int .i64 0, .slice none 0 0] (0, 0) _ rfl H2.out Try.underlying24 rfl (by kernel_rfl)) rfl ?_
      exact ⟨_, rfl, Kd.R_nil _ _ _ _ _, HB.out⟩
    · rw [if_neg c2] at h
      have c2b : decide (240 < (l0.length : Int)) = false := decide_eq_false c2
      have hl240 : (l0.length : Int) ≤ 240 := by omega
      clear c1 c2
      have H' := Aside0.mk h
      clear h
      go_enter Try.func21, Try.ntmps21
      go_wp2_with (first | ((with_reducible refine gate_dst (N := 2) rfl ?_); refine box_event ?hg (N := 2) ?hd (cs := #[.int .i64 0, .slice none 0 0]) (t := 24) ?hr ?_; (case hd => rfl); (case hg => rfl); (case hr => first | (go_simp; done) | (go_simp; rfl)); intro g2 hg w1 hbox hb; have G2 := Aside0.mk (show w.heap.size ≤ g2 from Nat.le_of_eq hg.symm); have H2 := Aside0.mk hbox; replace HB := Aside0.mk (below_step HB.out hb); clear hg hbox hb; have hc20 := (blk_cell H2.out 0).trans rfl; have hc21 := (blk_cell H2.out 1).trans rfl; have hf20 := blk_frozen H2.out 0; have hf21 := blk_frozen H2.out 1) | ((with_reducible refine gate_dst (N := 4) rfl ?_); refine box_event ?hg (N := 4) ?hd (cs := #[.int .i64 0, .slice none 0 0]) (t := 24) ?hr ?_; (case hd => rfl); (case hg => rfl); (case hr => first | (go_simp; done) | (go_simp; rfl)); intro gt hg w2 hbox hb; have GT := Aside0.mk (show w.heap.size ≤ gt by rw [hg]; exact below_size HB.out); have N2T := Aside0.mk (show g2 ≠ gt by have := blk_lt H2.out; omega); have HT := Aside0.mk hbox; replace H2 := Aside0.mk (blk_below H2.out hb); replace HB := Aside0.mk (below_step HB.out hb); clear hg hbox hb; have hct0 := (blk_cell HT.out 0).trans rfl; have hct1 := (blk_cell HT.out 1).trans rfl; have hft0 := blk_frozen HT.out 0; have hft1 := blk_frozen HT.out 1) | ((with_reducible refine gate_dst (N := 5) rfl ?_); refine box_event ?hg (N := 5) ?hd (cs := #[.int .i64 0]) (t := 3) ?hr ?_; (case hd => rfl); (case hg => rfl); (case hr => first | (go_simp; done) | (go_simp; rfl)); intro gl hg w4 hbox hb; replace HT := Aside0.mk (blk_set (blk_set HT.out 0 (.int .i64 (l0.length : Int))) 1 (.slice none 0 0)); replace H2 := Aside0.mk (blk_far (blk_far H2.out (p := ⟨gt, 0, none⟩) N2T.out (.int .i64 (l0.length : Int))) (p := ⟨gt, 1, none⟩) N2T.out (.slice none 0 0)); replace HB := Aside0.mk ((HB.out.setCell (p := ⟨gt, 0, none⟩) GT.out (.int .i64 (l0.length : Int))).setCell (p := ⟨gt, 1, none⟩) GT.out (.slice none 0 0)); have GL := Aside0.mk (show w.heap.size ≤ gl by rw [hg]; exact below_size HB.out); have N2L := Aside0.mk (show g2 ≠ gl by have := blk_lt H2.out; omega); have NTL := Aside0.mk (show gt ≠ gl by have := blk_lt HT.out; omega); have HL := Aside0.mk hbox; replace H2 := Aside0.mk (blk_below H2.out hb); replace HT := Aside0.mk (blk_below HT.out hb); replace HB := Aside0.mk (below_step HB.out hb); clear hg hbox hb; have hcl0 := (blk_cell HL.out 0).trans rfl; have hfl0 := blk_frozen HL.out 0))
      replace H2 := Aside0.mk (blk_far H2.out (p := ⟨gl, 0, none⟩) N2L.out (.int .i64 (-1)))
      replace HT := Aside0.mk (blk_far HT.out (p := ⟨gl, 0, none⟩) NTL.out (.int .i64 (-1)))
      replace HL := Aside0.mk (blk_set HL.out 0 (.int .i64 (-1)))
      replace HB := Aside0.mk (HB.out.setCell (p := ⟨gl, 0, none⟩) GL.out (.int .i64 (-1)))
      go_loopg [24] k (fun kq v24 w' => ∃ (ws : List S46) (last i : Int) (v : Value), v24 = .int .i64 i ∧ Aside0 (0 ≤ i ∧ i ≤ (l0.length : Int)) ∧ Aside0 (table_Of.l0 kq l0 i ws last = some (r1, r2, r3)) ∧ Aside0 (kq ≤ k) ∧ Aside0 (w'.heap[g2]? = some (.cells #[.int .i64 0, .slice none 0 0] 24 (0, 0))) ∧ Aside0 (w'.heap[gt]? = some (.cells #[.int .i64 (l0.length : Int), v] 24 (0, 0))) ∧ Aside0 (w'.heap[gl]? = some (.cells #[.int .i64 last] 3 (0, 0))) ∧ Aside0 (Kd.R k46 46 w' w.heap.size (fun _ => True) v ws) ∧ Aside0 (Below w.heap.size w w'))
      case atStart => exact ⟨[], -1, 0, _, rfl, ⟨by omega⟩, H', ⟨Nat.le_refl _⟩, H2, HT, HL, ⟨Kd.R_nil _ _ _ _ _⟩, HB⟩
      case round =>
        clear H' H2 HT HL HB
        obtain ⟨ws, last, i, v, rfl, HI, HA, HQ, H2, HT, HL, HR, HB⟩ := hrel
        obtain ⟨hi0, hi1⟩ := HI.out
        obtain ⟨A, c, ev⟩ := Kd.R_slice HR.out
        subst ev
        have hc20 := (blk_cell H2.out 0).trans rfl
        have hc21 := (blk_cell H2.out 1).trans rfl
        have hf20 := blk_frozen H2.out 0
        have hf21 := blk_frozen H2.out 1
        have hct0 := (blk_cell HT.out 0).trans rfl
        have hct1 := (blk_cell HT.out 1).trans rfl
        cases gk with
        | zero => exact absurd HA.out (by simp [table_Of.l0])
        | succ k1 =>
          have H := HA.out
          clear HA
          simp only [table_Of.l0] at H
          by_cases c3 : i < (l0.length : Int)
          · rw [if_pos c3] at H
            have c3b : decide (i < (l0.length : Int)) = true := decide_eq_true c3
            obtain ⟨ad, eA, hx⟩ := Kd.at_int (Kd.C_below HR0.out HB.out) i hi0 c3
            subst eA
            have q0 := eq_true hi0
            have q1 := eq_true c3
            by_cases c4 : rd l0 i < -1
            · rw [if_pos c4] at H
              have c4b : decide (rd l0 i < -1) = true := decide_eq_true c4
              clear c4
              obtain ⟨rfl, rfl, rfl⟩ : 0 = r1 ∧ [] = r2 ∧ 1 = r3 := by simpa using H
              clear H
              go_wp2
              have H20 := H2
              replace H2 := Aside0.mk (blk_set (blk_set H2.out 0 (.int .i64 0)) 1 (.slice none 0 0))
              replace HB := Aside0.mk ((HB.out.setCell (p := ⟨g2, 0, none⟩) G2.out (.int .i64 0)).setCell (p := ⟨g2, 1, none⟩) G2.out (.slice none 0 0))
              refine bodyPost_ret (results_ct rfl _ _ g2 24 #[.int .i64 0, .slice none 0 0] (0, 0) _ rfl H2.out Try.underlying24 rfl (by kernel_rfl)) rfl ?_
              exact ⟨_, rfl, Kd.R_nil _ _ _ _ _, HB.out⟩
            · rw [if_neg c4] at H
              have c4b : decide (rd l0 i < -1) = false := decide_eq_false c4
              by_cases c5 : rd l0 i ≥ 4
              · rw [if_pos c5] at H
                have c5b : decide (4 ≤ rd l0 i) = true := decide_eq_true c5
                clear c4 c5
                obtain ⟨rfl, rfl, rfl⟩ : 0 = r1 ∧ [] = r2 ∧ 1 = r3 := by simpa using H
                clear H
                go_wp2
                have H20 := H2
                replace H2 := Aside0.mk (blk_set (blk_set H2.out 0 (.int .i64 0)) 1 (.slice none 0 0))
                replace HB := Aside0.mk ((HB.out.setCell (p := ⟨g2, 0, none⟩) G2.out (.int .i64 0)).setCell (p := ⟨g2, 1, none⟩) G2.out (.slice none 0 0))
                refine bodyPost_ret (results_ct rfl _ _ g2 24 #[.int .i64 0, .slice none 0 0] (0, 0) _ rfl H2.out Try.underlying24 rfl (by kernel_rfl)) rfl ?_
                exact ⟨_, rfl, Kd.R_nil _ _ _ _ _, HB.out⟩
              · rw [if_neg c5] at H
                have c5b : decide (4 ≤ rd l0 i) = false := decide_eq_false c5
                clear c4 c5
                by_cases c6 : ws.length < 1000000 ∧ (rd l0 i = last → rd l0 i ≠ -1 → 0 < ws.length ∧ 0 ≤ (table_OfAdd.lst ws).f2 ∧ (table_OfAdd.lst ws).f2 < 1000000)
                · rw [if_pos c6] at H
                  have H5 := Aside0.mk c6
                  clear c6
                  have H' := Aside0.mk H
                  clear H
                  go_wp2_with (go_at_call 37; (with_reducible refine (table_OfAdd.calls ws last _ i (rd l0 i) w.heap.size gl gt _ _ HL.out HT.out GL.out GT.out HR.out ?s1 ?s2).mono ?_); (case s1 => exact H5.out.1); (case s2 => exact H5.out.2); rintro e w6 ⟨rfl, v', h1, h2, h3, h4, h5, h6⟩; have h_ := (h5 g2 (blk_lt H2.out) N2L.out N2T.out (Kd.R_ne HR.out H2.out (by decide))).trans H2.out; replace H2 := Aside0.mk h_; replace HT := Aside0.mk h1; replace HL := Aside0.mk h2; replace HR := Aside0.mk h3; replace HB := Aside0.mk (HB.out.trans h4); clear h1 h2 h3 h4 h5 h6 h_)
                  go_roundg k1
                  case measure => have := HQ.out; omega
                  case rel => exact ⟨_, _, _, _, rfl, ⟨by omega⟩, H', ⟨by have := HQ.out; omega⟩, H2, HT, HL, HR, HB⟩
                · rw [if_neg c6] at H
                  exact absurd H (by simp)
          · rw [if_neg c3] at H
            have c3b : decide (i < (l0.length : Int)) = false := decide_eq_false c3
            clear c3
            obtain ⟨rfl, rfl, rfl⟩ : (l0.length : Int) = r1 ∧ ws = r2 ∧ 0 = r3 := by simpa using H
            clear H
            go_wp2
            have H20 := H2
            replace H2 := Aside0.mk (blk_set (blk_set H2.out 0 (.int .i64 (l0.length : Int))) 1 (.slice A ws.length c))
            replace HB := Aside0.mk ((HB.out.setCell (p := ⟨g2, 0, none⟩) G2.out (.int .i64 (l0.length : Int))).setCell (p := ⟨g2, 1, none⟩) G2.out (.slice A ws.length c))
            refine bodyPost_ret (results_ct rfl _ _ g2 24 #[.int .i64 (l0.length : Int), .slice A ws.length c] (0, 0) _ rfl H2.out Try.underlying24 rfl (by kernel_rfl)) rfl ?_
            exact ⟨_, rfl, Kd.R_set (Kd.R_set HR.out H20.out (by decide) 0 _) (blk_set H20.out 0 _) (by decide) 1 _, HB.out⟩

end Go.Proofs.Ytkfkghnmbemdiaa.FSynth
