-- Written by the session (wip/tools) for this claim: functions of the program as Lean functions, and their contracts.
import Derived.Test.YteddflcloeelhaaOFOrdx0
import Derived.Test.YteddflcloeelhaaOFOrdx2
namespace Go.Proofs.Yteddflcloeelhaa.FOrd
open Go.RowKit Go.Proofs.YteddflcloeelhaaW.PrintWords Go.Proofs.YteddflcloeelhaaW.PrintLast Go.Proofs.YteddflcloeelhaaW.PrintMore
attribute [local go_sem] max2_int min2_int max_two min_two max_three min_three max_four min_four   -- for this text's walks alone
set_option linter.unusedVariables false
set_option linter.unusedSimpArgs false

/-! ### ring_List: function 16 -/
def ring_List.l0 : Nat → List Int → Int → Int → List Int → Int → Int → Option (List Int)
  | 0, _, _, _, _, _, _ => none
  | k + 1, x3, x9, x10, x265000, x265001, x265002 => if x10 < x9 then ((ring_at.f x265000 x265001 x265002 x10).bind fun t266 => (if 0 ≤ t266 then (if t266 < (x265000.length : Int) then (if x3.length < 17592186044416 then (ring_List.l0 k (x3 ++ [rd x265000 t266]) x9 (wrap64 (x10 + 1)) x265000 x265001 x265002) else (none)) else (none)) else (none))) else (some x3)
def ring_List.f (k : Nat) (l0_0 : List Int) (a0_1 : Int) (a0_2 : Int) : Option (List Int) := (ring_Right.f l0_0 a0_1 a0_2).bind fun t265 => (if t265 = true then (ring_List.l0 k ([] : List Int) a0_2 0 l0_0 a0_1 a0_2) else (some ([] : List Int)))
theorem ring_List.mono_l : ∀ k, (∀ y0 y1 y2 y3 y4 y5, LeO (ring_List.l0 k y0 y1 y2 y3 y4 y5) (ring_List.l0 (k + 1) y0 y1 y2 y3 y4 y5))
  | 0 => fun _ _ _ _ _ _ r h => by simp [ring_List.l0] at h
  | k + 1 => by
    have ih0 := ring_List.mono_l k
    · intro y0 y1 y2 y3 y4 y5
      unfold ring_List.l0
      repeat' first
      | (with_reducible exact ih0 _ _ _ _ _ _)
      | (with_reducible exact LeO.refl _)
      | (with_reducible exact LeO.none _)
      | (with_reducible refine LeO.ite ?_ ?_)
      | (with_reducible refine LeO.bind ?_ (fun _ => ?_))
      | exact ih0 _ _ _ _ _ _
      | exact LeO.none _
      | refine LeO.ite ?_ ?_
      | refine LeO.bind ?_ (fun _ => ?_)
theorem ring_List.mono : ∀ a0 a1 a2 k, LeO (ring_List.f k a0 a1 a2) (ring_List.f (k + 1) a0 a1 a2) := by
  intro a0 a1 a2 k
  have ih0 := ring_List.mono_l k
  unfold ring_List.f
  repeat' first
      | (with_reducible exact ih0 _ _ _ _ _ _)
      | (with_reducible exact LeO.refl _)
      | (with_reducible exact LeO.none _)
      | (with_reducible refine LeO.ite ?_ ?_)
      | (with_reducible refine LeO.bind ?_ (fun _ => ?_))
      | exact ih0 _ _ _ _ _ _
      | exact LeO.none _
      | refine LeO.ite ?_ ?_
      | refine LeO.bind ?_ (fun _ => ?_)
def ring_List.T7 : Bool × List (List Nat × List Nat) := (true, [([], []), ([], []), ([1], [1]), ([], []), ([], []), ([3, 4], [3, 4]), ([2, 5], [2, 5]), ([6], [6]), ([7], [7]), ([0, 8, 5], [0, 8]), ([9, 9, 0, 1, 2, 3, 4, 5, 6, 7, 8, 9], [0, 9])])
def ring_List.B7 : List Nat := [0, 0, 2, 0, 0, 24, 62, 126, 254, 511, 1023]
theorem ring_List.tab7 : rtab .any (opsOf Try.f16 7) = ring_List.T7 := by kernel_rfl
theorem ring_List.bits7 : waitsOk ring_List.T7.2 ring_List.B7 = true := by kernel_rfl
set_option maxHeartbeats 8000000 in
set_option maxRecDepth 100000 in
theorem ring_List.calls (k : Nat) (A0_0 : Option Addr) (c0_0 : Nat) (l0_0 : List Int) (a0_1 : Int) (a0_2 : Int) (r : List Int) (w : World) (hr0_0 : Kd.C (Kd.int .i64) w A0_0 l0_0.length l0_0) (hc0_0 : l0_0.length ≤ c0_0) (h : ring_List.f k l0_0 a0_1 a0_2 = some r) :
    Calls Try.prog 16 #[.agg #[.slice A0_0 l0_0.length c0_0, .int .i64 a0_1, .int .i64 a0_2]] w fun e w' => ∃ v0_ : Value, e = .returned (v0_) ∧ Kd.R (Kd.int .i64) 3 w' w.heap.size (fun _ => True) v0_ r ∧ Below w.heap.size w w' := by
  have hu24 := Try.underlying24
  have HR0_0 := Aside0.mk hr0_0
  have HC0_0 := Aside0.mk hc0_0
  clear hr0_0 hc0_0
  have HB := Aside0.mk (Below.refl w.heap.size w)
  have H : ((ring_Right.f l0_0 a0_1 a0_2).bind fun t265 => (if t265 = true then (ring_List.l0 k ([] : List Int) a0_2 0 l0_0 a0_1 a0_2) else (some ([] : List Int)))) = some r := h
  clear h
  replace H := Option.bind_eq_some_iff.mp H
  obtain ⟨t265, A20, H⟩ := H
  replace H : (if t265 = true then (ring_List.l0 k ([] : List Int) a0_2 0 l0_0 a0_1 a0_2) else (some ([] : List Int))) = some r := H
  have A2 := Aside0.mk A20
  clear A20
  by_cases c3 : t265 = true
  · subst c3
    have H1 : (ring_List.l0 k ([] : List Int) a0_2 0 l0_0 a0_1 a0_2) = some r := by rw [if_pos rfl] at H; exact H
    clear H
    have H := H1
    clear H1
    have H' := Aside0.mk H
    clear H
    go_enter Try.func16, Try.ntmps16
    go_wp2_with (first | ((with_reducible refine gate_dst (N := 1) rfl ?_); refine box_event ?hg (N := 1) ?hd (cs := #[.slice A0_0 l0_0.length c0_0, .int .i64 a0_1, .int .i64 a0_2]) (t := 24) ?hr ?_; (case hd => rfl); (case hg => rfl); (case hr => first | (go_simp; done) | (go_simp; rfl)); intro gb264 hg w4 hbox hb; have n0_ := Aside0.mk (below_step (by repeat (first | (with_reducible first | exact HB.out | apply below_alloc | apply pw_below_drewN | apply below_drew1) | exact HB.out)) hb); have n1_ := Aside0.mk (hbox); have n2_ := Aside0.mk ((by rw [hg]; exact (below_size (by repeat (first | (with_reducible first | exact HB.out | apply below_alloc | apply pw_below_drewN | apply below_drew1) | exact HB.out))) : w.heap.size ≤ gb264)); have n3_ := Aside0.mk ((by rw [hg]; exact (below_size (by repeat (first | (with_reducible first | exact HB.out | apply below_alloc | apply pw_below_drewN | apply below_drew1) | exact HB.out))) : w.heap.size ≤ gb264)); clear HB; have HB := n0_; have BK264 := n1_; have GW264 := n2_; have GE264 := n3_; clear n0_ n1_ n2_ n3_; clear hb hbox hg; have hcz5_0 : w4.cell? ⟨gb264, 0, none⟩ = some (.slice A0_0 l0_0.length c0_0) := (blk_cell BK264.out 0).trans rfl; have hcz5_1 : w4.cell? ⟨gb264, 1, none⟩ = some (.int .i64 a0_1) := (blk_cell BK264.out 1).trans rfl; have hcz5_2 : w4.cell? ⟨gb264, 2, none⟩ = some (.int .i64 a0_2) := (blk_cell BK264.out 2).trans rfl; have hfz5_0 := blk_frozen BK264.out 0; have hfz5_1 := blk_frozen BK264.out 1; have hfz5_2 := blk_frozen BK264.out 2) | ((with_reducible refine gate_callee (f := 17) rfl ?_); refine goesL_ (some 6) rfl rfl Try.func17 (by kernel_rfl) rfl #[.agg #[.slice A0_0 l0_0.length c0_0, .int .i64 a0_1, .int .i64 a0_2]] rfl (by (try simp only [List.map_toArray, List.map_cons, List.map_nil]); first | done | rfl | (simp only [List.length_drop, List.length_take]; rfl)) ?_; (with_reducible refine (ring_Right.calls _ _ l0_0 a0_1 a0_2 true _ ?side1 ?side2 A2.out).mono ?_); (case side1 => repeat (first | exact (Kd.C_below HR0_0.out HB.out) | (with_reducible refine Kd.C_alloc ?_ _) | (with_reducible refine Kd.C_drewN ?_ _) | (with_reducible refine Kd.C_drew ?_))); (case side2 => exact HC0_0.out); rintro e w6 ⟨rfl, hb⟩; refine ⟨_, rfl, ?_⟩; have n0_ := Aside0.mk (blk_below (g := gb264) (o := .cells #[.slice A0_0 l0_0.length c0_0, .int .i64 a0_1, .int .i64 a0_2] 24 (0, 0)) (by (with_reducible repeat (first | refine blk_drewN ?_ _ | refine blk_drew ?_ | refine blk_alloc ?_ _)); exact BK264.out) hb); have n1_ := Aside0.mk (below_step (by repeat (first | (with_reducible first | exact HB.out | apply below_alloc | apply pw_below_drewN | apply below_drew1 | refine below_set ?_ GE264.out) | exact HB.out)) hb); clear BK264; clear HB; have BK264 := n0_; have HB := n1_; clear n0_ n1_; (try clear hb); (try clear hb2); (try clear hk); (try clear hi); have hcz7_0 : w6.cell? ⟨gb264, 0, none⟩ = some (.slice A0_0 l0_0.length c0_0) := (blk_cell BK264.out 0).trans rfl; have hcz7_1 : w6.cell? ⟨gb264, 1, none⟩ = some (.int .i64 a0_1) := (blk_cell BK264.out 1).trans rfl; have hcz7_2 : w6.cell? ⟨gb264, 2, none⟩ = some (.int .i64 a0_2) := (blk_cell BK264.out 2).trans rfl; have hfz7_0 := blk_frozen BK264.out 0; have hfz7_1 := blk_frozen BK264.out 1; have hfz7_2 := blk_frozen BK264.out 2))
    go_loopg [3, 10] k (fun kq v3 v10 w' => ∃ (x3_1 : List Int) (x10_1 : Int), v10 = .int .i64 x10_1 ∧ Aside0 (ring_List.l0 kq x3_1 a0_2 x10_1 l0_0 a0_1 a0_2 = some r) ∧ Aside0 (kq ≤ k) ∧ Aside0 (Kd.R (Kd.int .i64) 3 w' w.heap.size (fun _ => True) v3 x3_1) ∧ Aside0 (w'.heap[gb264]? = some (.cells #[(.slice A0_0 l0_0.length c0_0), .int .i64 a0_1, .int .i64 a0_2] 24 (0, 0))) ∧ Aside0 (Below w.heap.size w w'))
    case atStart => exact ⟨(([] : List Int)), (0), (by first | rfl | (simp; done) | (simp [*]; done)), H', ⟨Nat.le_refl _⟩, ⟨by first | exact Kd.R_nil _ _ _ _ _ | exact Kd.N_nil _ _ _ _ _ | exact Kd.V_nil _ _ _ _ _ | exact Kd.Q_nil _ _ _ _ _ | exact Kd.S_nil _ _ _ _ _⟩, ⟨by (with_reducible repeat (first | refine blk_drewN ?_ _ | refine blk_drew ?_ | refine blk_alloc ?_ _)); exact BK264.out⟩, ⟨by repeat (first | (with_reducible first | exact HB.out | apply below_alloc | apply pw_below_drewN | apply below_drew1 | refine below_set ?_ GE264.out) | exact HB.out)⟩⟩
    case round =>
      clear H'
      try clear c1
      try clear p2
      try clear c3
      try clear hcz5_0
      try clear hcz5_1
      try clear hcz5_2
      try clear hcz7_0
      try clear hcz7_1
      try clear hcz7_2
      try clear hfz5_0
      try clear hfz5_1
      try clear hfz5_2
      try clear hfz7_0
      try clear hfz7_1
      try clear hfz7_2
      obtain ⟨x3_1, x10_1, rfl, HA, HK1, HO_3, BK264, HB⟩ := hrel
      cases gk with
      | zero => exact absurd HA.out (by simp [ring_List.l0])
      | succ k1 =>
        have H := HA.out
        clear HA
        simp only [ring_List.l0] at H
        by_cases c8 : x10_1 < a0_2
        · rw [if_pos c8] at H
          have c8b0 : decide (x10_1 < a0_2) = true := decide_eq_true c8
          clear c8
          replace H := Option.bind_eq_some_iff.mp H
          obtain ⟨t266, A90, H⟩ := H
          replace H : (if 0 ≤ t266 then (if t266 < (l0_0.length : Int) then (if x3_1.length < 17592186044416 then (ring_List.l0 k1 (x3_1 ++ [rd l0_0 t266]) a0_2 (wrap64 (x10_1 + 1)) l0_0 a0_1 a0_2) else (none)) else (none)) else (none)) = some r := H
          have A9 := Aside0.mk A90
          clear A90
          by_cases c10 : 0 ≤ t266
          · rw [if_pos c10] at H
            have c10b0 : decide (0 ≤ t266) = true := decide_eq_true c10
            clear c10
            by_cases c11 : t266 < (l0_0.length : Int)
            · rw [if_pos c11] at H
              have c11b0 : decide (t266 < (l0_0.length : Int)) = true := decide_eq_true c11
              clear c11
              by_cases c12 : x3_1.length < 17592186044416
              · rw [if_pos c12] at H
                have LMc12 := Aside0.mk c12
                clear c12
                obtain ⟨y268, hy268⟩ : ∃ y_ : List Int, y_ = (x3_1 ++ [rd l0_0 t266]) := ⟨_, rfl⟩
                replace H : (ring_List.l0 k1 y268 a0_2 (wrap64 (x10_1 + 1)) l0_0 a0_1 a0_2) = some r := by first | (rw [hy268]; with_reducible exact H) | (have H2_ := (Option.bind_some _ _).symm.trans H; rw [hy268]; with_reducible exact H2_) | (have H2_ := (Option.bind_some _ _).symm.trans H; with_reducible exact H2_) | with_reducible exact H | (rw [hy268]; exact H) | exact H
                have Ny268 := Aside0.mk hy268
                clear hy268
                have H' := Aside0.mk H
                clear H
                try go_wp2
                have n0_ := Aside0.mk (Kd.R_drew HO_3.out)
                have n1_ := Aside0.mk (blk_drew BK264.out)
                have n2_ := Aside0.mk (below_drew1 HB.out)
                clear HO_3
                clear BK264
                clear HB
                have HO_3 := n0_
                have BK264 := n1_
                have HB := n2_
                clear n0_ n1_ n2_
                have p267 : 0 ≤ (t266 : Int) := of_decide_eq_true (by first | (with_reducible assumption) | assumption)
                have q267 : t266 < (l0_0.length : Int) := of_decide_eq_true (by first | (with_reducible assumption) | assumption)
                obtain ⟨ad267, e267, hx267_0⟩ := Kd.at_int HR0_0.out t266 p267 q267
                have hw267_0 := hx267_0
                cases e267
                replace hx267_0 := (HB.out.cell (World.block_lt_of_cell? w _ hx267_0)).trans hx267_0
                replace p267 := eq_true p267
                replace q267 := eq_true q267
                refine start_ (n := 11) (S := fun w' => w'.cell? ⟨gb264, 0, none⟩ = some (.slice (some ad267) l0_0.length c0_0) ∧ w'.cell? ⟨gb264, 1, none⟩ = some (.int .i64 a0_1) ∧ w'.cell? ⟨gb264, 2, none⟩ = some (.int .i64 a0_2) ∧ w'.cell? (ad267.add (t266).toNat) = some (.int .i64 (rd l0_0 t266))) (ds := []) #[false, false, false, false, false, false, false, false, false, false, false] (by kernel_rfl) rfl rfl ⟨(blk_cell BK264.out 0).trans rfl, (blk_cell BK264.out 1).trans rfl, (blk_cell BK264.out 2).trans rfl, ((HB.out.cell (World.block_lt_of_cell? w _ hw267_0)).trans hw267_0)⟩ (fun hHeld => ?_); refine with_tabW ring_List.tab7 ring_List.bits7 (fun HT_ HW_ => ?_)
                generalize wr.drew = w13 at HO_3 BK264 HB hx267_0 hHeld ⊢
                refine pure_ (i := 0) (N := some 13) (v := ?_) (a' := ?_) #[true, false, false, false, false, false, false, false, false, false, false] rfl rfl (any_of HT_.out (by kernel_rfl)) (fun _ _ _ h => h) (Or.inl ⟨by rfl, ?_⟩) ?_ ?_
                rotate_left
                · intro w'
                  go_simp
                  with_reducible rfl
                rotate_left
                · simp only [Act.put, List.setIfInBounds_toArray, List.set_cons_zero, List.set_cons_succ, i64_w, i32_w]
                  rfl
                refine pure_ (i := 1) (N := some 14) (v := ?_) (a' := ?_) #[true, true, false, false, false, false, false, false, false, false, false] rfl rfl (any_of HT_.out (by kernel_rfl)) (fun _ _ _ h => h) (Or.inl ⟨by rfl, ?_⟩) ?_ ?_
                rotate_left
                · intro w'
                  go_simp
                  with_reducible rfl
                rotate_left
                · simp only [Act.put, List.setIfInBounds_toArray, List.set_cons_zero, List.set_cons_succ, i64_w, i32_w]
                  rfl
                refine pure_ (i := 4) (N := some 17) (v := ?_) (a' := ?_) #[true, true, false, false, true, false, false, false, false, false, false] rfl rfl (any_of HT_.out (by kernel_rfl)) (fun _ _ _ h => h) (Or.inl ⟨by rfl, ?_⟩) ?_ ?_
                rotate_left
                · intro w'
                  go_simp
                  with_reducible rfl
                rotate_left
                · simp only [Act.put, List.setIfInBounds_toArray, List.set_cons_zero, List.set_cons_succ, i64_w, i32_w]
                  rfl
                refine take_ (i := 2) (N := some 15) (v := ?_) (a' := ?_) #[true, true, true, false, true, false, false, false, false, false, false] rfl rfl (take_ofW HT_.out HW_.out (by kernel_rfl)) (fun _ _ _ h => h) (Or.inl ⟨by rfl, ?_⟩) hHeld ?_ ?_
                rotate_left
                · rintro w' ⟨s0, s1, s2, s3⟩
                  go_simp
                  with_reducible rfl
                rotate_left
                · simp only [Act.put, List.setIfInBounds_toArray, List.set_cons_zero, List.set_cons_succ, i64_w, i32_w]
                  rfl
                refine take_ (i := 3) (N := some 16) (v := ?_) (a' := ?_) #[true, true, true, true, true, false, false, false, false, false, false] rfl rfl (take_ofW HT_.out HW_.out (by kernel_rfl)) (fun _ _ _ h => h) (Or.inl ⟨by rfl, ?_⟩) hHeld ?_ ?_
                rotate_left
                · rintro w' ⟨s0, s1, s2, s3⟩
                  go_simp
                  with_reducible rfl
                rotate_left
                · simp only [Act.put, List.setIfInBounds_toArray, List.set_cons_zero, List.set_cons_succ, i64_w, i32_w]
                  rfl
                refine one_ (i := 5) (N := some 18) #[true, true, true, true, true, true, false, false, false, false, false] rfl rfl (one_of HT_.out (by kernel_rfl)) (by decide) (fun K hK => ?_)
                refine goes_ Try.func41 (by kernel_rfl) rfl #[.agg #[.slice (some ad267) l0_0.length c0_0, .int .i64 a0_1, .int .i64 a0_2], .int .i64 x10_1] (by rfl) rfl rfl (by (try simp only [List.map_toArray, List.map_cons, List.map_nil]); first | done | rfl | (simp only [List.length_drop, List.length_take]; rfl)) ?_
                with_reducible refine (ring_at.calls _ _ l0_0 a0_1 a0_2 x10_1 t266 _ ?side1 ?side2 A9.out).mono ?_
                (case side1 => repeat (first | exact (Kd.C_below HR0_0.out HB.out) | (with_reducible refine Kd.C_alloc ?_ _) | (with_reducible refine Kd.C_drewN ?_ _) | (with_reducible refine Kd.C_drew ?_)))
                (case side2 => exact HC0_0.out)
                rintro e w14 ⟨rfl, hb⟩
                refine ⟨_, rfl, ?_⟩
                have n0_ := Aside0.mk (Kd.R_below (by (with_reducible repeat (first | apply Kd.R_alloc | apply Kd.R_drewN | apply Kd.R_drew)); exact HO_3.out) hb)
                have n1_ := Aside0.mk (blk_below (g := gb264) (o := .cells #[.slice (some ad267) l0_0.length c0_0, .int .i64 a0_1, .int .i64 a0_2] 24 (0, 0)) (by (with_reducible repeat (first | refine blk_drewN ?_ _ | refine blk_drew ?_ | refine blk_alloc ?_ _)); exact BK264.out) hb)
                have n2_ := Aside0.mk (below_step (by repeat (first | (with_reducible first | exact HB.out | apply below_alloc | apply pw_below_drewN | apply below_drew1 | refine below_set ?_ GE264.out) | exact HB.out)) hb)
                clear HO_3
                clear BK264
                clear HB
                have HO_3 := n0_
                have BK264 := n1_
                have HB := n2_
                clear n0_ n1_ n2_
                (try clear hb)
                (try clear hb2)
                (try clear hk)
                (try clear hi)
                refine hK.out _ _ ⟨(blk_cell BK264.out 0).trans rfl, (blk_cell BK264.out 1).trans rfl, (blk_cell BK264.out 2).trans rfl, ((HB.out.cell (World.block_lt_of_cell? w _ hw267_0)).trans hw267_0)⟩ (fun hHeld => ?_)
                clear hK K
                refine norm_ (a' := ?_) ?_ ?_
                rotate_left
                · show Act.put _ (some 18) _ = _
                  simp only [Act.put, List.setIfInBounds_toArray, List.set_cons_zero, List.set_cons_succ, i64_w, i32_w]
                  rfl
                refine pure_ (i := 6) (N := some 19) (v := ?_) (a' := ?_) #[true, true, true, true, true, true, true, false, false, false, false] rfl rfl (any_of HT_.out (by kernel_rfl)) (fun _ _ _ h => h) (Or.inl ⟨by rfl, ?_⟩) ?_ ?_
                rotate_left
                · intro w'
                  go_simp
                  with_reducible rfl
                rotate_left
                · simp only [Act.put, List.setIfInBounds_toArray, List.set_cons_zero, List.set_cons_succ, i64_w, i32_w]
                  rfl
                refine take_ (i := 7) (N := some 20) (v := ?_) (a' := ?_) #[true, true, true, true, true, true, true, true, false, false, false] rfl rfl (take_ofW HT_.out HW_.out (by kernel_rfl)) (fun _ _ _ h => h) (Or.inl ⟨by rfl, ?_⟩) hHeld ?_ ?_
                rotate_left
                · rintro w' ⟨s0, s1, s2, s3⟩
                  go_simp
                  with_reducible rfl
                rotate_left
                · simp only [Act.put, List.setIfInBounds_toArray, List.set_cons_zero, List.set_cons_succ, i64_w, i32_w]
                  rfl
                refine one_ (i := 8) (N := some 21) #[true, true, true, true, true, true, true, true, true, false, false] rfl rfl (one_of HT_.out (by kernel_rfl)) (by decide) (fun K hK => ?_)
                refine value_ (w1 := ?_) (v := ?_) (by rfl) rfl ?_ ?_
                rotate_left 2
                · go_simp
                  constructor
                  · rfl
                  · rfl
                refine hK.out _ _ ⟨(blk_cell (blk_alloc BK264.out _) 0).trans rfl, (blk_cell (blk_alloc BK264.out _) 1).trans rfl, (blk_cell (blk_alloc BK264.out _) 2).trans rfl, (World.cell?_alloc_lt _ _ _ (World.block_lt_of_cell? _ _ (((HB.out.cell (World.block_lt_of_cell? w _ hw267_0)).trans hw267_0)))).trans (((HB.out.cell (World.block_lt_of_cell? w _ hw267_0)).trans hw267_0))⟩ (fun hHeld => ?_)
                clear hK K
                refine norm_ (a' := ?_) ?_ ?_
                rotate_left
                · show Act.put _ (some 21) _ = _
                  simp only [Act.put, List.setIfInBounds_toArray, List.set_cons_zero, List.set_cons_succ, i64_w, i32_w]
                  rfl
                refine one_ (i := 9) (N := some 22) #[true, true, true, true, true, true, true, true, true, true, false] rfl rfl (one_of HT_.out (by kernel_rfl)) (by decide) (fun K hK => ?_)
                refine Kd.R_append_step (Kd.int .i64) (w0 := w) w.heap.size (by rfl) (.tmp 13) (.tmp 21) 22 3 (.int .i64 0) 8 rfl Try.underlying22 info3 rfl (by decide) (by omega) u3 x3_1 (rd l0_0 t266) [.int .i64 (rd l0_0 t266)] (fun _ => True) (fun _ => False) rfl rfl ?aP (fun _ hk => hk.elim) ?aF ?aO ?aB ?aS ?aL ?_
                (case aP => exact rfl)
                (case aB => exact (by repeat (first | (with_reducible first | exact HB.out | apply below_alloc | apply pw_below_drewN | apply below_drew1 | refine below_set ?_ GE264.out) | exact HB.out)))
                (case aF => exact (fun _ _ => trivial))
                (case aO => exact (by (with_reducible repeat (first | apply Kd.R_alloc | apply Kd.R_drewN | apply Kd.R_drew)); exact HO_3.out))
                (case aS => exact (below_size (by repeat (first | (with_reducible first | exact HB.out | apply below_alloc | apply pw_below_drewN | apply below_drew1 | refine below_set ?_ GE264.out) | exact HB.out))))
                (case aL => have := LMc12.out; omega)
                intro v269 w15 ho hb hg hat
                rw [← Ny268.out] at ho
                have n0_ := Aside0.mk (blk_grown (g := gb264) (o := .cells #[.slice (some ad267) l0_0.length c0_0, .int .i64 a0_1, .int .i64 a0_2] 24 (0, 0)) (by (with_reducible repeat (first | refine blk_drewN ?_ _ | refine blk_drew ?_ | refine blk_alloc ?_ _)); exact BK264.out) hg (Kd.R_ne HO_3.out BK264.out (by decide)))
                have n1_ := Aside0.mk (hb)
                have n2_ := Aside0.mk (ho)
                clear BK264
                clear HB
                clear HO_3
                have BK264 := n0_
                have HB := n1_
                have HO270 := n2_
                clear n0_ n1_ n2_
                clear ho hb hg hat
                refine hK.out _ _ ⟨(blk_cell BK264.out 0).trans rfl, (blk_cell BK264.out 1).trans rfl, (blk_cell BK264.out 2).trans rfl, ((HB.out.cell (World.block_lt_of_cell? w _ hw267_0)).trans hw267_0)⟩ (fun hHeld => ?_)
                clear hK K
                refine norm_ (a' := ?_) ?_ ?_
                rotate_left
                · show Act.put _ (some 22) _ = _
                  simp only [Act.put, List.setIfInBounds_toArray, List.set_cons_zero, List.set_cons_succ, i64_w, i32_w]
                  rfl
                refine pure_ (i := 10) (N := some 3) (v := ?_) (a' := ?_) #[true, true, true, true, true, true, true, true, true, true, true] rfl rfl (any_of HT_.out (by kernel_rfl)) (fun _ _ _ h => h) (Or.inl ⟨by rfl, ?_⟩) ?_ ?_
                rotate_left
                · intro w'
                  go_simp
                  with_reducible rfl
                rotate_left
                · simp only [Act.put, List.setIfInBounds_toArray, List.set_cons_zero, List.set_cons_succ, i64_w, i32_w]
                  rfl
                refine done_ (done_of HT_.out (by kernel_rfl)) ?_
                try go_wp2
                go_roundg k1
                case measure => have := HK1.out; omega
                case rel => exact ⟨(y268), (wrap64 (x10_1 + 1)), (by first | rfl | (simp; done) | (simp [*]; done)), H', ⟨by have := HK1.out; omega⟩, ⟨by (with_reducible repeat (first | apply Kd.R_alloc | apply Kd.R_drewN | apply Kd.R_drew)); exact HO270.out⟩, ⟨by (with_reducible repeat (first | refine blk_drewN ?_ _ | refine blk_drew ?_ | refine blk_alloc ?_ _)); exact BK264.out⟩, ⟨by repeat (first | (with_reducible first | exact HB.out | apply below_alloc | apply pw_below_drewN | apply below_drew1 | refine below_set ?_ GE264.out) | exact HB.out)⟩⟩
              · rw [if_neg c12] at H
                exact absurd H (by simp)
            · rw [if_neg c11] at H
              exact absurd H (by simp)
          · rw [if_neg c10] at H
            exact absurd H (by simp)
        · rw [if_neg c8] at H
          have c8b0 : decide (x10_1 < a0_2) = false := decide_eq_false c8
          clear c8
          obtain rfl := Option.some.inj H
          go_wp2
          go_ret
          exact ⟨_, by first | rfl | (rw [HR_.out] <;> rfl) | (simp [errW_none, errW_some] <;> rfl) | (simp [*, errW_none, errW_some] <;> rfl), by (with_reducible repeat (first | apply Kd.R_alloc | apply Kd.R_drewN | apply Kd.R_drew)); exact HO_3.out, by repeat (first | (with_reducible first | exact HB.out | apply below_alloc | apply pw_below_drewN | apply below_drew1 | refine below_set ?_ GE264.out) | exact HB.out)⟩
  · replace c3 := Bool.eq_false_iff.mpr c3
    subst c3
    have H1 : (some ([] : List Int)) = some r := by rw [if_neg (show ¬ (false = true) by decide)] at H; exact H
    clear H
    have H := H1
    clear H1
    obtain rfl := Option.some.inj H
    go_enter Try.func16, Try.ntmps16
    go_wp2_with (first | ((with_reducible refine gate_dst (N := 1) rfl ?_); refine box_event ?hg (N := 1) ?hd (cs := #[.slice A0_0 l0_0.length c0_0, .int .i64 a0_1, .int .i64 a0_2]) (t := 24) ?hr ?_; (case hd => rfl); (case hg => rfl); (case hr => first | (go_simp; done) | (go_simp; rfl)); intro gb264 hg w16 hbox hb; have n0_ := Aside0.mk (below_step (by repeat (first | (with_reducible first | exact HB.out | apply below_alloc | apply pw_below_drewN | apply below_drew1) | exact HB.out)) hb); have n1_ := Aside0.mk (hbox); have n2_ := Aside0.mk ((by rw [hg]; exact (below_size (by repeat (first | (with_reducible first | exact HB.out | apply below_alloc | apply pw_below_drewN | apply below_drew1) | exact HB.out))) : w.heap.size ≤ gb264)); have n3_ := Aside0.mk ((by rw [hg]; exact (below_size (by repeat (first | (with_reducible first | exact HB.out | apply below_alloc | apply pw_below_drewN | apply below_drew1) | exact HB.out))) : w.heap.size ≤ gb264)); clear HB; have HB := n0_; have BK264 := n1_; have GW264 := n2_; have GE264 := n3_; clear n0_ n1_ n2_ n3_; clear hb hbox hg; have hcz17_0 : w16.cell? ⟨gb264, 0, none⟩ = some (.slice A0_0 l0_0.length c0_0) := (blk_cell BK264.out 0).trans rfl; have hcz17_1 : w16.cell? ⟨gb264, 1, none⟩ = some (.int .i64 a0_1) := (blk_cell BK264.out 1).trans rfl; have hcz17_2 : w16.cell? ⟨gb264, 2, none⟩ = some (.int .i64 a0_2) := (blk_cell BK264.out 2).trans rfl; have hfz17_0 := blk_frozen BK264.out 0; have hfz17_1 := blk_frozen BK264.out 1; have hfz17_2 := blk_frozen BK264.out 2) | ((with_reducible refine gate_callee (f := 17) rfl ?_); refine goesL_ (some 6) rfl rfl Try.func17 (by kernel_rfl) rfl #[.agg #[.slice A0_0 l0_0.length c0_0, .int .i64 a0_1, .int .i64 a0_2]] rfl (by (try simp only [List.map_toArray, List.map_cons, List.map_nil]); first | done | rfl | (simp only [List.length_drop, List.length_take]; rfl)) ?_; (with_reducible refine (ring_Right.calls _ _ l0_0 a0_1 a0_2 false _ ?side1 ?side2 A2.out).mono ?_); (case side1 => repeat (first | exact (Kd.C_below HR0_0.out HB.out) | (with_reducible refine Kd.C_alloc ?_ _) | (with_reducible refine Kd.C_drewN ?_ _) | (with_reducible refine Kd.C_drew ?_))); (case side2 => exact HC0_0.out); rintro e w18 ⟨rfl, hb⟩; refine ⟨_, rfl, ?_⟩; have n0_ := Aside0.mk (blk_below (g := gb264) (o := .cells #[.slice A0_0 l0_0.length c0_0, .int .i64 a0_1, .int .i64 a0_2] 24 (0, 0)) (by (with_reducible repeat (first | refine blk_drewN ?_ _ | refine blk_drew ?_ | refine blk_alloc ?_ _)); exact BK264.out) hb); have n1_ := Aside0.mk (below_step (by repeat (first | (with_reducible first | exact HB.out | apply below_alloc | apply pw_below_drewN | apply below_drew1 | refine below_set ?_ GE264.out) | exact HB.out)) hb); clear BK264; clear HB; have BK264 := n0_; have HB := n1_; clear n0_ n1_; (try clear hb); (try clear hb2); (try clear hk); (try clear hi)))
    go_ret
    exact ⟨_, by first | rfl | (rw [HR_.out] <;> rfl) | (simp [errW_none, errW_some] <;> rfl) | (simp [*, errW_none, errW_some] <;> rfl), by first | exact Kd.R_nil _ _ _ _ _ | exact Kd.N_nil _ _ _ _ _ | exact Kd.V_nil _ _ _ _ _ | exact Kd.Q_nil _ _ _ _ _ | exact Kd.S_nil _ _ _ _ _, by repeat (first | (with_reducible first | exact HB.out | apply below_alloc | apply pw_below_drewN | apply below_drew1 | refine below_set ?_ GE264.out) | exact HB.out)⟩

/-! ### remontoirlaw18_As: function 35 -/
def remontoirlaw18_As.l0 : Nat → List (S76) → List (S63) → Int → Option ((List (S63)))
  | 0, _, _, _ => none
  | k + 1, x0, x3, x4 => if x4 < (x0.length : Int) then (if 0 ≤ x4 then ((ring_List.f k ((rd_T76 x0 x4).f1.f0) ((rd_T76 x0 x4).f1.f1) ((rd_T76 x0 x4).f1.f2)).bind fun t273 => ((ring_List.f k ((rd_T76 x0 x4).f2.f0) ((rd_T76 x0 x4).f2.f1) ((rd_T76 x0 x4).f2.f2)).bind fun t277 => (if x3.length < 1954687338268 then (remontoirlaw18_As.l0 k x0 (x3 ++ [(⟨(⟨(rd_T76 x0 x4).f0.f0, (rd_T76 x0 x4).f0.f1, (rd_T76 x0 x4).f0.f2⟩ : S51), t273, t277⟩ : S63)]) (wrap64 (x4 + 1))) else (none)))) else (none)) else (some x3)
def remontoirlaw18_As.f (k : Nat) (l0 : List (S76)) : Option ((List (S63))) := remontoirlaw18_As.l0 k l0 ([] : List (S63)) 0
theorem remontoirlaw18_As.mono_l : ∀ k, (∀ y0 y1 y2, LeO (remontoirlaw18_As.l0 k y0 y1 y2) (remontoirlaw18_As.l0 (k + 1) y0 y1 y2))
  | 0 => fun _ _ _ r h => by simp [remontoirlaw18_As.l0] at h
  | k + 1 => by
    have ih0 := remontoirlaw18_As.mono_l k
    · intro y0 y1 y2
      unfold remontoirlaw18_As.l0
      repeat' first
      | (with_reducible exact ih0 _ _ _)
      | (with_reducible exact ring_List.mono _ _ _ _)
      | (with_reducible exact LeO.refl _)
      | (with_reducible exact LeO.none _)
      | (with_reducible refine LeO.ite ?_ ?_)
      | (with_reducible refine LeO.bind ?_ (fun _ => ?_))
      | exact ih0 _ _ _
      | exact ring_List.mono _ _ _ _
      | exact LeO.none _
      | refine LeO.ite ?_ ?_
      | refine LeO.bind ?_ (fun _ => ?_)
theorem remontoirlaw18_As.mono : ∀ a0 k, LeO (remontoirlaw18_As.f k a0) (remontoirlaw18_As.f (k + 1) a0) := by
  intro a0 k
  have ih0 := remontoirlaw18_As.mono_l k
  unfold remontoirlaw18_As.f
  repeat' first
      | (with_reducible exact ih0 _ _ _)
      | (with_reducible exact ring_List.mono _ _ _ _)
      | (with_reducible exact LeO.refl _)
      | (with_reducible exact LeO.none _)
      | (with_reducible refine LeO.ite ?_ ?_)
      | (with_reducible refine LeO.bind ?_ (fun _ => ?_))
      | exact ih0 _ _ _
      | exact ring_List.mono _ _ _ _
      | exact LeO.none _
      | refine LeO.ite ?_ ?_
      | refine LeO.bind ?_ (fun _ => ?_)
def remontoirlaw18_As.T5 : Bool × List (List Nat × List Nat) := (true, [([], []), ([], []), ([], []), ([1, 2], [1, 2]), ([3], [3]), ([4], [4]), ([], []), ([], []), ([6, 7], [6, 7]), ([8], [8]), ([9], [9]), ([10], [10]), ([], []), ([], []), ([12, 13], [12, 13]), ([14], [14]), ([15], [15]), ([16, 11], [16]), ([5, 11, 17], [5, 11, 17]), ([18], [18]), ([0, 19, 17], [0, 19]), ([20, 20, 0, 1, 2, 3, 4, 5, 6, 7, 8, 9, 10, 11, 12, 13, 14, 15, 16, 17, 18, 19, 20], [0, 20])])
def remontoirlaw18_As.B5 : List Nat := [0, 0, 0, 6, 14, 30, 0, 0, 192, 448, 960, 1984, 0, 0, 12288, 28672, 61440, 131008, 262142, 524286, 1048575, 2097151]
theorem remontoirlaw18_As.tab5 : rtab .any (opsOf Try.f35 5) = remontoirlaw18_As.T5 := by kernel_rfl
theorem remontoirlaw18_As.bits5 : waitsOk remontoirlaw18_As.T5.2 remontoirlaw18_As.B5 = true := by kernel_rfl
set_option maxHeartbeats 8000000 in
set_option maxRecDepth 100000 in
theorem remontoirlaw18_As.calls (k : Nat) (A0 : Option Addr) (c0 : Nat) (l0 : List (S76)) (r : List (S63)) (w : World) (hr0 : Kd.C k76 w A0 l0.length l0) (hc0 : l0.length ≤ c0) (h : remontoirlaw18_As.f k l0 = some r) :
    Calls Try.prog 35 #[.slice A0 l0.length c0] w fun e w' => ∃ v0_ : Value, e = .returned (v0_) ∧ Kd.S k63 63 w' w.heap.size (fun _ => True) v0_ r ∧ Below w.heap.size w w' := by
  have hu51 := Try.underlying51
  have hu24 := Try.underlying24
  have hu63 := Try.underlying63
  have HR0 := Aside0.mk hr0
  have HC0 := Aside0.mk hc0
  clear hr0 hc0
  have HB := Aside0.mk (Below.refl w.heap.size w)
  have H : (remontoirlaw18_As.l0 k l0 ([] : List (S63)) 0) = some r := h
  clear h
  have H' := Aside0.mk H
  clear H
  go_enter Try.func35, Try.ntmps35
  go_wp2
  go_loopg [3, 4] k (fun kq v3 v4 w' => ∃ (x3_1 : List (S63)) (x4_1 : Int), v4 = .int .i64 x4_1 ∧ Aside0 (remontoirlaw18_As.l0 kq l0 x3_1 x4_1 = some r) ∧ Aside0 (kq ≤ k) ∧ Aside0 (Kd.S k63 63 w' w.heap.size (fun _ => True) v3 x3_1) ∧ Aside0 (Below w.heap.size w w'))
  case atStart => exact ⟨(([] : List (S63))), (0), (by first | rfl | (simp; done) | (simp [*]; done)), H', ⟨Nat.le_refl _⟩, ⟨by first | exact Kd.S_nil _ _ _ _ _ | exact Kd.N_nil _ _ _ _ _ | exact Kd.V_nil _ _ _ _ _ | exact Kd.Q_nil _ _ _ _ _ | exact Kd.R_nil _ _ _ _ _⟩, ⟨by repeat (first | (with_reducible first | exact HB.out | apply below_alloc | apply pw_below_drewN | apply below_drew1) | exact HB.out)⟩⟩
  case round =>
    clear H'
    obtain ⟨x3_1, x4_1, rfl, HA, HK1, HO_3, HB⟩ := hrel
    cases gk with
    | zero => exact absurd HA.out (by simp [remontoirlaw18_As.l0])
    | succ k1 =>
      have H := HA.out
      clear HA
      simp only [remontoirlaw18_As.l0] at H
      by_cases c2 : x4_1 < (l0.length : Int)
      · rw [if_pos c2] at H
        have c2b0 : decide (x4_1 < (l0.length : Int)) = true := decide_eq_true c2
        clear c2
        by_cases c3 : 0 ≤ x4_1
        · rw [if_pos c3] at H
          have c3b0 : decide (0 ≤ x4_1) = true := decide_eq_true c3
          clear c3
          replace H := Option.bind_eq_some_iff.mp H
          obtain ⟨t273, A40, H⟩ := H
          replace H : ((ring_List.f k1 ((rd_T76 l0 x4_1).f2.f0) ((rd_T76 l0 x4_1).f2.f1) ((rd_T76 l0 x4_1).f2.f2)).bind fun t277 => (if x3_1.length < 1954687338268 then (remontoirlaw18_As.l0 k1 l0 (x3_1 ++ [(⟨(⟨(rd_T76 l0 x4_1).f0.f0, (rd_T76 l0 x4_1).f0.f1, (rd_T76 l0 x4_1).f0.f2⟩ : S51), t273, t277⟩ : S63)]) (wrap64 (x4_1 + 1))) else (none))) = some r := H
          have A4 := Aside0.mk A40
          clear A40
          replace H := Option.bind_eq_some_iff.mp H
          obtain ⟨t277, A50, H⟩ := H
          replace H : (if x3_1.length < 1954687338268 then (remontoirlaw18_As.l0 k1 l0 (x3_1 ++ [(⟨(⟨(rd_T76 l0 x4_1).f0.f0, (rd_T76 l0 x4_1).f0.f1, (rd_T76 l0 x4_1).f0.f2⟩ : S51), t273, t277⟩ : S63)]) (wrap64 (x4_1 + 1))) else (none)) = some r := H
          have A5 := Aside0.mk A50
          clear A50
          by_cases c6 : x3_1.length < 1954687338268
          · rw [if_pos c6] at H
            have LMc6 := Aside0.mk c6
            clear c6
            obtain ⟨y280, hy280⟩ : ∃ y_ : List (S63), y_ = (x3_1 ++ [(⟨(⟨(rd_T76 l0 x4_1).f0.f0, (rd_T76 l0 x4_1).f0.f1, (rd_T76 l0 x4_1).f0.f2⟩ : S51), t273, t277⟩ : S63)]) := ⟨_, rfl⟩
            replace H : (remontoirlaw18_As.l0 k1 l0 y280 (wrap64 (x4_1 + 1))) = some r := by first | (rw [hy280]; with_reducible exact H) | (have H2_ := (Option.bind_some _ _).symm.trans H; rw [hy280]; with_reducible exact H2_) | (have H2_ := (Option.bind_some _ _).symm.trans H; with_reducible exact H2_) | with_reducible exact H | (rw [hy280]; exact H) | exact H
            have Ny280 := Aside0.mk hy280
            clear hy280
            have H' := Aside0.mk H
            clear H
            try go_wp2
            have n0_ := Aside0.mk (Kd.S_drew HO_3.out)
            have n1_ := Aside0.mk (below_drew1 HB.out)
            clear HO_3
            clear HB
            have HO_3 := n0_
            have HB := n1_
            clear n0_ n1_
            have p271 : 0 ≤ (x4_1 : Int) := of_decide_eq_true (by first | (with_reducible assumption) | assumption)
            have q271 : x4_1 < (l0.length : Int) := of_decide_eq_true (by first | (with_reducible assumption) | assumption)
            obtain ⟨ad271, A271_3, c271_3, A271_6, c271_6, e271, hx271_0, hx271_1, hx271_2, hx271_3, hx271_4, hx271_5, hx271_6, hx271_7, hx271_8, hl271_3, hi271_3, hl271_6, hi271_6⟩ := at_T76 HR0.out x4_1 p271 q271
            have hw271_8 := hx271_8
            have hw271_7 := hx271_7
            have hw271_6 := hx271_6
            have hw271_5 := hx271_5
            have hw271_4 := hx271_4
            have hw271_3 := hx271_3
            have hw271_2 := hx271_2
            have hw271_1 := hx271_1
            have hw271_0 := hx271_0
            cases e271
            replace hx271_0 := (HB.out.cell (World.block_lt_of_cell? w _ hx271_0)).trans hx271_0
            replace hx271_1 := (HB.out.cell (World.block_lt_of_cell? w _ hx271_1)).trans hx271_1
            replace hx271_2 := (HB.out.cell (World.block_lt_of_cell? w _ hx271_2)).trans hx271_2
            replace hx271_3 := (HB.out.cell (World.block_lt_of_cell? w _ hx271_3)).trans hx271_3
            replace hx271_4 := (HB.out.cell (World.block_lt_of_cell? w _ hx271_4)).trans hx271_4
            replace hx271_5 := (HB.out.cell (World.block_lt_of_cell? w _ hx271_5)).trans hx271_5
            replace hx271_6 := (HB.out.cell (World.block_lt_of_cell? w _ hx271_6)).trans hx271_6
            replace hx271_7 := (HB.out.cell (World.block_lt_of_cell? w _ hx271_7)).trans hx271_7
            replace hx271_8 := (HB.out.cell (World.block_lt_of_cell? w _ hx271_8)).trans hx271_8
            have HR271_3 := Aside0.mk hi271_3
            have HC271_3 := Aside0.mk hl271_3
            clear hi271_3 hl271_3
            have HR271_6 := Aside0.mk hi271_6
            have HC271_6 := Aside0.mk hl271_6
            clear hi271_6 hl271_6
            replace p271 := eq_true p271
            replace q271 := eq_true q271
            have p272 : 0 ≤ (x4_1 : Int) := of_decide_eq_true (by first | (with_reducible assumption) | assumption)
            have q272 : x4_1 < (l0.length : Int) := of_decide_eq_true (by first | (with_reducible assumption) | assumption)
            obtain ⟨ad272, A272_3, c272_3, A272_6, c272_6, e272, hx272_0, hx272_1, hx272_2, hx272_3, hx272_4, hx272_5, hx272_6, hx272_7, hx272_8, hl272_3, hi272_3, hl272_6, hi272_6⟩ := at_T76 HR0.out x4_1 p272 q272
            have hw272_8 := hx272_8
            have hw272_7 := hx272_7
            have hw272_6 := hx272_6
            have hw272_5 := hx272_5
            have hw272_4 := hx272_4
            have hw272_3 := hx272_3
            have hw272_2 := hx272_2
            have hw272_1 := hx272_1
            have hw272_0 := hx272_0
            obtain rfl : ad271 = ad272 := (by injection e272)
            replace hx272_0 := (HB.out.cell (World.block_lt_of_cell? w _ hx272_0)).trans hx272_0
            replace hx272_1 := (HB.out.cell (World.block_lt_of_cell? w _ hx272_1)).trans hx272_1
            replace hx272_2 := (HB.out.cell (World.block_lt_of_cell? w _ hx272_2)).trans hx272_2
            replace hx272_3 := (HB.out.cell (World.block_lt_of_cell? w _ hx272_3)).trans hx272_3
            replace hx272_4 := (HB.out.cell (World.block_lt_of_cell? w _ hx272_4)).trans hx272_4
            replace hx272_5 := (HB.out.cell (World.block_lt_of_cell? w _ hx272_5)).trans hx272_5
            replace hx272_6 := (HB.out.cell (World.block_lt_of_cell? w _ hx272_6)).trans hx272_6
            replace hx272_7 := (HB.out.cell (World.block_lt_of_cell? w _ hx272_7)).trans hx272_7
            replace hx272_8 := (HB.out.cell (World.block_lt_of_cell? w _ hx272_8)).trans hx272_8
            have HR272_3 := Aside0.mk hi272_3
            have HC272_3 := Aside0.mk hl272_3
            clear hi272_3 hl272_3
            have HR272_6 := Aside0.mk hi272_6
            have HC272_6 := Aside0.mk hl272_6
            clear hi272_6 hl272_6
            replace p272 := eq_true p272
            replace q272 := eq_true q272
            have ea_ := Option.some.inj (hx271_3.symm.trans hx272_3)
            injection ea_ with ea_ en_ ec_
            subst ea_
            subst ec_
            clear en_
            have ea_ := Option.some.inj (hx271_6.symm.trans hx272_6)
            injection ea_ with ea_ en_ ec_
            subst ea_
            subst ec_
            clear en_
            have p276 : 0 ≤ (x4_1 : Int) := of_decide_eq_true (by first | (with_reducible assumption) | assumption)
            have q276 : x4_1 < (l0.length : Int) := of_decide_eq_true (by first | (with_reducible assumption) | assumption)
            obtain ⟨ad276, A276_3, c276_3, A276_6, c276_6, e276, hx276_0, hx276_1, hx276_2, hx276_3, hx276_4, hx276_5, hx276_6, hx276_7, hx276_8, hl276_3, hi276_3, hl276_6, hi276_6⟩ := at_T76 HR0.out x4_1 p276 q276
            have hw276_8 := hx276_8
            have hw276_7 := hx276_7
            have hw276_6 := hx276_6
            have hw276_5 := hx276_5
            have hw276_4 := hx276_4
            have hw276_3 := hx276_3
            have hw276_2 := hx276_2
            have hw276_1 := hx276_1
            have hw276_0 := hx276_0
            obtain rfl : ad271 = ad276 := (by injection e276)
            replace hx276_0 := (HB.out.cell (World.block_lt_of_cell? w _ hx276_0)).trans hx276_0
            replace hx276_1 := (HB.out.cell (World.block_lt_of_cell? w _ hx276_1)).trans hx276_1
            replace hx276_2 := (HB.out.cell (World.block_lt_of_cell? w _ hx276_2)).trans hx276_2
            replace hx276_3 := (HB.out.cell (World.block_lt_of_cell? w _ hx276_3)).trans hx276_3
            replace hx276_4 := (HB.out.cell (World.block_lt_of_cell? w _ hx276_4)).trans hx276_4
            replace hx276_5 := (HB.out.cell (World.block_lt_of_cell? w _ hx276_5)).trans hx276_5
            replace hx276_6 := (HB.out.cell (World.block_lt_of_cell? w _ hx276_6)).trans hx276_6
            replace hx276_7 := (HB.out.cell (World.block_lt_of_cell? w _ hx276_7)).trans hx276_7
            replace hx276_8 := (HB.out.cell (World.block_lt_of_cell? w _ hx276_8)).trans hx276_8
            have HR276_3 := Aside0.mk hi276_3
            have HC276_3 := Aside0.mk hl276_3
            clear hi276_3 hl276_3
            have HR276_6 := Aside0.mk hi276_6
            have HC276_6 := Aside0.mk hl276_6
            clear hi276_6 hl276_6
            replace p276 := eq_true p276
            replace q276 := eq_true q276
            have ea_ := Option.some.inj (hx271_3.symm.trans hx276_3)
            injection ea_ with ea_ en_ ec_
            subst ea_
            subst ec_
            clear en_
            have ea_ := Option.some.inj (hx271_6.symm.trans hx276_6)
            injection ea_ with ea_ en_ ec_
            subst ea_
            subst ec_
            clear en_
            refine start_ (n := 22) (S := fun w' => w'.cell? (ad271.add ((x4_1).toNat * 9)) = some (.int .i64 ((rd_T76 l0 x4_1).f0.f0)) ∧ w'.cell? ⟨(ad271.add ((x4_1).toNat * 9)).block, (ad271.add ((x4_1).toNat * 9)).off + 1, none⟩ = some (.int .i64 ((rd_T76 l0 x4_1).f0.f1)) ∧ w'.cell? ⟨(ad271.add ((x4_1).toNat * 9)).block, (ad271.add ((x4_1).toNat * 9)).off + 2, none⟩ = some (.int .i64 ((rd_T76 l0 x4_1).f0.f2)) ∧ w'.cell? ⟨(ad271.add ((x4_1).toNat * 9)).block, (ad271.add ((x4_1).toNat * 9)).off + 3, none⟩ = some (.slice A271_3 ((rd_T76 l0 x4_1).f1.f0).length c271_3) ∧ w'.cell? ⟨(ad271.add ((x4_1).toNat * 9)).block, (ad271.add ((x4_1).toNat * 9)).off + 4, none⟩ = some (.int .i64 ((rd_T76 l0 x4_1).f1.f1)) ∧ w'.cell? ⟨(ad271.add ((x4_1).toNat * 9)).block, (ad271.add ((x4_1).toNat * 9)).off + 5, none⟩ = some (.int .i64 ((rd_T76 l0 x4_1).f1.f2)) ∧ w'.cell? ⟨(ad271.add ((x4_1).toNat * 9)).block, (ad271.add ((x4_1).toNat * 9)).off + 6, none⟩ = some (.slice A271_6 ((rd_T76 l0 x4_1).f2.f0).length c271_6) ∧ w'.cell? ⟨(ad271.add ((x4_1).toNat * 9)).block, (ad271.add ((x4_1).toNat * 9)).off + 7, none⟩ = some (.int .i64 ((rd_T76 l0 x4_1).f2.f1)) ∧ w'.cell? ⟨(ad271.add ((x4_1).toNat * 9)).block, (ad271.add ((x4_1).toNat * 9)).off + 8, none⟩ = some (.int .i64 ((rd_T76 l0 x4_1).f2.f2)) ∧ w'.cell? (ad271.add ((x4_1).toNat * 9)) = some (.int .i64 ((rd_T76 l0 x4_1).f0.f0)) ∧ w'.cell? ⟨(ad271.add ((x4_1).toNat * 9)).block, (ad271.add ((x4_1).toNat * 9)).off + 1, none⟩ = some (.int .i64 ((rd_T76 l0 x4_1).f0.f1)) ∧ w'.cell? ⟨(ad271.add ((x4_1).toNat * 9)).block, (ad271.add ((x4_1).toNat * 9)).off + 2, none⟩ = some (.int .i64 ((rd_T76 l0 x4_1).f0.f2)) ∧ w'.cell? ⟨(ad271.add ((x4_1).toNat * 9)).block, (ad271.add ((x4_1).toNat * 9)).off + 3, none⟩ = some (.slice A271_3 ((rd_T76 l0 x4_1).f1.f0).length c271_3) ∧ w'.cell? ⟨(ad271.add ((x4_1).toNat * 9)).block, (ad271.add ((x4_1).toNat * 9)).off + 4, none⟩ = some (.int .i64 ((rd_T76 l0 x4_1).f1.f1)) ∧ w'.cell? ⟨(ad271.add ((x4_1).toNat * 9)).block, (ad271.add ((x4_1).toNat * 9)).off + 5, none⟩ = some (.int .i64 ((rd_T76 l0 x4_1).f1.f2)) ∧ w'.cell? ⟨(ad271.add ((x4_1).toNat * 9)).block, (ad271.add ((x4_1).toNat * 9)).off + 6, none⟩ = some (.slice A271_6 ((rd_T76 l0 x4_1).f2.f0).length c271_6) ∧ w'.cell? ⟨(ad271.add ((x4_1).toNat * 9)).block, (ad271.add ((x4_1).toNat * 9)).off + 7, none⟩ = some (.int .i64 ((rd_T76 l0 x4_1).f2.f1)) ∧ w'.cell? ⟨(ad271.add ((x4_1).toNat * 9)).block, (ad271.add ((x4_1).toNat * 9)).off + 8, none⟩ = some (.int .i64 ((rd_T76 l0 x4_1).f2.f2)) ∧ w'.cell? (ad271.add ((x4_1).toNat * 9)) = some (.int .i64 ((rd_T76 l0 x4_1).f0.f0)) ∧ w'.cell? ⟨(ad271.add ((x4_1).toNat * 9)).block, (ad271.add ((x4_1).toNat * 9)).off + 1, none⟩ = some (.int .i64 ((rd_T76 l0 x4_1).f0.f1)) ∧ w'.cell? ⟨(ad271.add ((x4_1).toNat * 9)).block, (ad271.add ((x4_1).toNat * 9)).off + 2, none⟩ = some (.int .i64 ((rd_T76 l0 x4_1).f0.f2)) ∧ w'.cell? ⟨(ad271.add ((x4_1).toNat * 9)).block, (ad271.add ((x4_1).toNat * 9)).off + 3, none⟩ = some (.slice A271_3 ((rd_T76 l0 x4_1).f1.f0).length c271_3) ∧ w'.cell? ⟨(ad271.add ((x4_1).toNat * 9)).block, (ad271.add ((x4_1).toNat * 9)).off + 4, none⟩ = some (.int .i64 ((rd_T76 l0 x4_1).f1.f1)) ∧ w'.cell? ⟨(ad271.add ((x4_1).toNat * 9)).block, (ad271.add ((x4_1).toNat * 9)).off + 5, none⟩ = some (.int .i64 ((rd_T76 l0 x4_1).f1.f2)) ∧ w'.cell? ⟨(ad271.add ((x4_1).toNat * 9)).block, (ad271.add ((x4_1).toNat * 9)).off + 6, none⟩ = some (.slice A271_6 ((rd_T76 l0 x4_1).f2.f0).length c271_6) ∧ w'.cell? ⟨(ad271.add ((x4_1).toNat * 9)).block, (ad271.add ((x4_1).toNat * 9)).off + 7, none⟩ = some (.int .i64 ((rd_T76 l0 x4_1).f2.f1)) ∧ w'.cell? ⟨(ad271.add ((x4_1).toNat * 9)).block, (ad271.add ((x4_1).toNat * 9)).off + 8, none⟩ = some (.int .i64 ((rd_T76 l0 x4_1).f2.f2))) (ds := []) #[false, false, false, false, false, false, false, false, false, false, false, false, false, false, false, false, false, false, false, false, false, false] (by kernel_rfl) rfl rfl ⟨((HB.out.cell (World.block_lt_of_cell? w _ hw271_0)).trans hw271_0), ((HB.out.cell (World.block_lt_of_cell? w _ hw271_1)).trans hw271_1), ((HB.out.cell (World.block_lt_of_cell? w _ hw271_2)).trans hw271_2), ((HB.out.cell (World.block_lt_of_cell? w _ hw271_3)).trans hw271_3), ((HB.out.cell (World.block_lt_of_cell? w _ hw271_4)).trans hw271_4), ((HB.out.cell (World.block_lt_of_cell? w _ hw271_5)).trans hw271_5), ((HB.out.cell (World.block_lt_of_cell? w _ hw271_6)).trans hw271_6), ((HB.out.cell (World.block_lt_of_cell? w _ hw271_7)).trans hw271_7), ((HB.out.cell (World.block_lt_of_cell? w _ hw271_8)).trans hw271_8), ((HB.out.cell (World.block_lt_of_cell? w _ hw272_0)).trans hw272_0), ((HB.out.cell (World.block_lt_of_cell? w _ hw272_1)).trans hw272_1), ((HB.out.cell (World.block_lt_of_cell? w _ hw272_2)).trans hw272_2), ((HB.out.cell (World.block_lt_of_cell? w _ hw272_3)).trans hw272_3), ((HB.out.cell (World.block_lt_of_cell? w _ hw272_4)).trans hw272_4), ((HB.out.cell (World.block_lt_of_cell? w _ hw272_5)).trans hw272_5), ((HB.out.cell (World.block_lt_of_cell? w _ hw272_6)).trans hw272_6), ((HB.out.cell (World.block_lt_of_cell? w _ hw272_7)).trans hw272_7), ((HB.out.cell (World.block_lt_of_cell? w _ hw272_8)).trans hw272_8), ((HB.out.cell (World.block_lt_of_cell? w _ hw276_0)).trans hw276_0), ((HB.out.cell (World.block_lt_of_cell? w _ hw276_1)).trans hw276_1), ((HB.out.cell (World.block_lt_of_cell? w _ hw276_2)).trans hw276_2), ((HB.out.cell (World.block_lt_of_cell? w _ hw276_3)).trans hw276_3), ((HB.out.cell (World.block_lt_of_cell? w _ hw276_4)).trans hw276_4), ((HB.out.cell (World.block_lt_of_cell? w _ hw276_5)).trans hw276_5), ((HB.out.cell (World.block_lt_of_cell? w _ hw276_6)).trans hw276_6), ((HB.out.cell (World.block_lt_of_cell? w _ hw276_7)).trans hw276_7), ((HB.out.cell (World.block_lt_of_cell? w _ hw276_8)).trans hw276_8)⟩ (fun hHeld => ?_); refine with_tabW remontoirlaw18_As.tab5 remontoirlaw18_As.bits5 (fun HT_ HW_ => ?_)
            generalize wr.drew = w7 at HO_3 HB HR271_3 HR271_6 HR272_3 HR272_6 HR276_3 HR276_6 hx271_0 hx271_1 hx271_2 hx271_3 hx271_4 hx271_5 hx271_6 hx271_7 hx271_8 hx272_0 hx272_1 hx272_2 hx272_3 hx272_4 hx272_5 hx272_6 hx272_7 hx272_8 hx276_0 hx276_1 hx276_2 hx276_3 hx276_4 hx276_5 hx276_6 hx276_7 hx276_8 hHeld ⊢
            refine pure_ (i := 0) (N := some 11) (v := ?_) (a' := ?_) #[true, false, false, false, false, false, false, false, false, false, false, false, false, false, false, false, false, false, false, false, false, false] rfl rfl (any_of HT_.out (by kernel_rfl)) (fun _ _ _ h => h) (Or.inl ⟨by rfl, ?_⟩) ?_ ?_
            rotate_left
            · intro w'
              go_simp
              with_reducible rfl
            rotate_left
            · simp only [Act.put, List.setIfInBounds_toArray, List.set_cons_zero, List.set_cons_succ, i64_w, i32_w]
              rfl
            refine pure_ (i := 1) (N := some 12) (v := ?_) (a' := ?_) #[true, true, false, false, false, false, false, false, false, false, false, false, false, false, false, false, false, false, false, false, false, false] rfl rfl (any_of HT_.out (by kernel_rfl)) (fun _ _ _ h => h) (Or.inl ⟨by rfl, ?_⟩) ?_ ?_
            rotate_left
            · intro w'
              go_simp
              with_reducible rfl
            rotate_left
            · simp only [Act.put, List.setIfInBounds_toArray, List.set_cons_zero, List.set_cons_succ, i64_w, i32_w]
              rfl
            refine pure_ (i := 2) (N := some 13) (v := ?_) (a' := ?_) #[true, true, true, false, false, false, false, false, false, false, false, false, false, false, false, false, false, false, false, false, false, false] rfl rfl (any_of HT_.out (by kernel_rfl)) (fun _ _ _ h => h) (Or.inl ⟨by rfl, ?_⟩) ?_ ?_
            rotate_left
            · intro w'
              go_simp
              with_reducible rfl
            rotate_left
            · simp only [Act.put, List.setIfInBounds_toArray, List.set_cons_zero, List.set_cons_succ, i64_w, i32_w]
              rfl
            refine pure_ (i := 3) (N := some 14) (v := ?_) (a' := ?_) #[true, true, true, true, false, false, false, false, false, false, false, false, false, false, false, false, false, false, false, false, false, false] rfl rfl (any_of HT_.out (by kernel_rfl)) (fun _ _ _ h => h) (Or.inl ⟨by rfl, ?_⟩) ?_ ?_
            rotate_left
            · intro w'
              go_simp
              with_reducible rfl
            rotate_left
            · simp only [Act.put, List.setIfInBounds_toArray, List.set_cons_zero, List.set_cons_succ, i64_w, i32_w]
              rfl
            refine pure_ (i := 4) (N := some 15) (v := ?_) (a' := ?_) #[true, true, true, true, true, false, false, false, false, false, false, false, false, false, false, false, false, false, false, false, false, false] rfl rfl (any_of HT_.out (by kernel_rfl)) (fun _ _ _ h => h) (Or.inl ⟨by rfl, ?_⟩) ?_ ?_
            rotate_left
            · intro w'
              go_simp
              with_reducible rfl
            rotate_left
            · simp only [Act.put, List.setIfInBounds_toArray, List.set_cons_zero, List.set_cons_succ, i64_w, i32_w]
              rfl
            refine pure_ (i := 6) (N := some 17) (v := ?_) (a' := ?_) #[true, true, true, true, true, false, true, false, false, false, false, false, false, false, false, false, false, false, false, false, false, false] rfl rfl (any_of HT_.out (by kernel_rfl)) (fun _ _ _ h => h) (Or.inl ⟨by rfl, ?_⟩) ?_ ?_
            rotate_left
            · intro w'
              go_simp
              with_reducible rfl
            rotate_left
            · simp only [Act.put, List.setIfInBounds_toArray, List.set_cons_zero, List.set_cons_succ, i64_w, i32_w]
              rfl
            refine pure_ (i := 7) (N := some 18) (v := ?_) (a' := ?_) #[true, true, true, true, true, false, true, true, false, false, false, false, false, false, false, false, false, false, false, false, false, false] rfl rfl (any_of HT_.out (by kernel_rfl)) (fun _ _ _ h => h) (Or.inl ⟨by rfl, ?_⟩) ?_ ?_
            rotate_left
            · intro w'
              go_simp
              with_reducible rfl
            rotate_left
            · simp only [Act.put, List.setIfInBounds_toArray, List.set_cons_zero, List.set_cons_succ, i64_w, i32_w]
              rfl
            refine pure_ (i := 8) (N := some 19) (v := ?_) (a' := ?_) #[true, true, true, true, true, false, true, true, true, false, false, false, false, false, false, false, false, false, false, false, false, false] rfl rfl (any_of HT_.out (by kernel_rfl)) (fun _ _ _ h => h) (Or.inl ⟨by rfl, ?_⟩) ?_ ?_
            rotate_left
            · intro w'
              go_simp
              with_reducible rfl
            rotate_left
            · simp only [Act.put, List.setIfInBounds_toArray, List.set_cons_zero, List.set_cons_succ, i64_w, i32_w]
              rfl
            refine pure_ (i := 9) (N := some 20) (v := ?_) (a' := ?_) #[true, true, true, true, true, false, true, true, true, true, false, false, false, false, false, false, false, false, false, false, false, false] rfl rfl (any_of HT_.out (by kernel_rfl)) (fun _ _ _ h => h) (Or.inl ⟨by rfl, ?_⟩) ?_ ?_
            rotate_left
            · intro w'
              go_simp
              with_reducible rfl
            rotate_left
            · simp only [Act.put, List.setIfInBounds_toArray, List.set_cons_zero, List.set_cons_succ, i64_w, i32_w]
              rfl
            refine pure_ (i := 12) (N := some 23) (v := ?_) (a' := ?_) #[true, true, true, true, true, false, true, true, true, true, false, false, true, false, false, false, false, false, false, false, false, false] rfl rfl (any_of HT_.out (by kernel_rfl)) (fun _ _ _ h => h) (Or.inl ⟨by rfl, ?_⟩) ?_ ?_
            rotate_left
            · intro w'
              go_simp
              with_reducible rfl
            rotate_left
            · simp only [Act.put, List.setIfInBounds_toArray, List.set_cons_zero, List.set_cons_succ, i64_w, i32_w]
              rfl
            refine pure_ (i := 13) (N := some 24) (v := ?_) (a' := ?_) #[true, true, true, true, true, false, true, true, true, true, false, false, true, true, false, false, false, false, false, false, false, false] rfl rfl (any_of HT_.out (by kernel_rfl)) (fun _ _ _ h => h) (Or.inl ⟨by rfl, ?_⟩) ?_ ?_
            rotate_left
            · intro w'
              go_simp
              with_reducible rfl
            rotate_left
            · simp only [Act.put, List.setIfInBounds_toArray, List.set_cons_zero, List.set_cons_succ, i64_w, i32_w]
              rfl
            refine pure_ (i := 14) (N := some 25) (v := ?_) (a' := ?_) #[true, true, true, true, true, false, true, true, true, true, false, false, true, true, true, false, false, false, false, false, false, false] rfl rfl (any_of HT_.out (by kernel_rfl)) (fun _ _ _ h => h) (Or.inl ⟨by rfl, ?_⟩) ?_ ?_
            rotate_left
            · intro w'
              go_simp
              with_reducible rfl
            rotate_left
            · simp only [Act.put, List.setIfInBounds_toArray, List.set_cons_zero, List.set_cons_succ, i64_w, i32_w]
              rfl
            refine pure_ (i := 15) (N := some 26) (v := ?_) (a' := ?_) #[true, true, true, true, true, false, true, true, true, true, false, false, true, true, true, true, false, false, false, false, false, false] rfl rfl (any_of HT_.out (by kernel_rfl)) (fun _ _ _ h => h) (Or.inl ⟨by rfl, ?_⟩) ?_ ?_
            rotate_left
            · intro w'
              go_simp
              with_reducible rfl
            rotate_left
            · simp only [Act.put, List.setIfInBounds_toArray, List.set_cons_zero, List.set_cons_succ, i64_w, i32_w]
              rfl
            refine take_ (i := 5) (N := some 16) (v := ?_) (a' := ?_) #[true, true, true, true, true, true, true, true, true, true, false, false, true, true, true, true, false, false, false, false, false, false] rfl rfl (take_ofW HT_.out HW_.out (by kernel_rfl)) (fun _ _ _ h => h) (Or.inl ⟨by rfl, ?_⟩) hHeld ?_ ?_
            rotate_left
            · rintro w' ⟨s0, s1, s2, s3, s4, s5, s6, s7, s8, s9, s10, s11, s12, s13, s14, s15, s16, s17, s18, s19, s20, s21, s22, s23, s24, s25, s26⟩
              go_simp
              with_reducible rfl
            rotate_left
            · simp only [Act.put, List.setIfInBounds_toArray, List.set_cons_zero, List.set_cons_succ, i64_w, i32_w]
              rfl
            refine take_ (i := 10) (N := some 21) (v := ?_) (a' := ?_) #[true, true, true, true, true, true, true, true, true, true, true, false, true, true, true, true, false, false, false, false, false, false] rfl rfl (take_ofW HT_.out HW_.out (by kernel_rfl)) (fun _ _ _ h => h) (Or.inl ⟨by rfl, ?_⟩) hHeld ?_ ?_
            rotate_left
            · rintro w' ⟨s0, s1, s2, s3, s4, s5, s6, s7, s8, s9, s10, s11, s12, s13, s14, s15, s16, s17, s18, s19, s20, s21, s22, s23, s24, s25, s26⟩
              go_simp
              with_reducible rfl
            rotate_left
            · simp only [Act.put, List.setIfInBounds_toArray, List.set_cons_zero, List.set_cons_succ, i64_w, i32_w]
              rfl
            refine take_ (i := 16) (N := some 27) (v := ?_) (a' := ?_) #[true, true, true, true, true, true, true, true, true, true, true, false, true, true, true, true, true, false, false, false, false, false] rfl rfl (take_ofW HT_.out HW_.out (by kernel_rfl)) (fun _ _ _ h => h) (Or.inl ⟨by rfl, ?_⟩) hHeld ?_ ?_
            rotate_left
            · rintro w' ⟨s0, s1, s2, s3, s4, s5, s6, s7, s8, s9, s10, s11, s12, s13, s14, s15, s16, s17, s18, s19, s20, s21, s22, s23, s24, s25, s26⟩
              go_simp
              with_reducible rfl
            rotate_left
            · simp only [Act.put, List.setIfInBounds_toArray, List.set_cons_zero, List.set_cons_succ, i64_w, i32_w]
              rfl
            refine one_ (i := 11) (N := some 22) #[true, true, true, true, true, true, true, true, true, true, true, true, true, true, true, true, true, false, false, false, false, false] rfl rfl (one_of HT_.out (by kernel_rfl)) (by decide) (fun K hK => ?_)
            refine goes_ Try.func16 (by kernel_rfl) rfl #[.agg #[.slice A271_3 ((rd_T76 l0 x4_1).f1.f0).length c271_3, .int .i64 ((rd_T76 l0 x4_1).f1.f1), .int .i64 ((rd_T76 l0 x4_1).f1.f2)]] (by rfl) rfl rfl (by (try simp only [List.map_toArray, List.map_cons, List.map_nil]); first | done | rfl | (simp only [List.length_drop, List.length_take]; rfl)) ?_
            with_reducible refine (ring_List.calls k1 _ _ ((rd_T76 l0 x4_1).f1.f0) ((rd_T76 l0 x4_1).f1.f1) ((rd_T76 l0 x4_1).f1.f2) t273 _ ?side1 ?side2 A4.out).mono ?_
            (case side1 => repeat (first | exact (Kd.C_below HR272_3.out HB.out) | (with_reducible refine Kd.C_alloc ?_ _) | (with_reducible refine Kd.C_drewN ?_ _) | (with_reducible refine Kd.C_drew ?_)))
            (case side2 => exact HC272_3.out)
            rintro e w8 ⟨v274, rfl, ho0, hb⟩
            refine ⟨_, rfl, ?_⟩
            have n0_ := Aside0.mk (Kd.S_elder' (by (with_reducible repeat (first | apply Kd.S_alloc | apply Kd.S_drewN | apply Kd.S_drew)); exact HO_3.out) (Kd.R_base ho0) hb)
            have n1_ := Aside0.mk (Kd.R_lower ho0 (below_size (by repeat (first | (with_reducible first | exact HB.out | apply below_alloc | apply pw_below_drewN | apply below_drew1) | exact HB.out))))
            have n2_ := Aside0.mk (below_step (by repeat (first | (with_reducible first | exact HB.out | apply below_alloc | apply pw_below_drewN | apply below_drew1) | exact HB.out)) hb)
            clear HO_3
            clear HB
            have HO_3 := n0_
            have HO275 := n1_
            have HB := n2_
            clear n0_ n1_ n2_
            (try clear hb)
            (try clear hb2)
            (try clear hk)
            (try clear hi)
            (try clear ho0)
            refine hK.out _ _ ⟨((HB.out.cell (World.block_lt_of_cell? w _ hw271_0)).trans hw271_0), ((HB.out.cell (World.block_lt_of_cell? w _ hw271_1)).trans hw271_1), ((HB.out.cell (World.block_lt_of_cell? w _ hw271_2)).trans hw271_2), ((HB.out.cell (World.block_lt_of_cell? w _ hw271_3)).trans hw271_3), ((HB.out.cell (World.block_lt_of_cell? w _ hw271_4)).trans hw271_4), ((HB.out.cell (World.block_lt_of_cell? w _ hw271_5)).trans hw271_5), ((HB.out.cell (World.block_lt_of_cell? w _ hw271_6)).trans hw271_6), ((HB.out.cell (World.block_lt_of_cell? w _ hw271_7)).trans hw271_7), ((HB.out.cell (World.block_lt_of_cell? w _ hw271_8)).trans hw271_8), ((HB.out.cell (World.block_lt_of_cell? w _ hw272_0)).trans hw272_0), ((HB.out.cell (World.block_lt_of_cell? w _ hw272_1)).trans hw272_1), ((HB.out.cell (World.block_lt_of_cell? w _ hw272_2)).trans hw272_2), ((HB.out.cell (World.block_lt_of_cell? w _ hw272_3)).trans hw272_3), ((HB.out.cell (World.block_lt_of_cell? w _ hw272_4)).trans hw272_4), ((HB.out.cell (World.block_lt_of_cell? w _ hw272_5)).trans hw272_5), ((HB.out.cell (World.block_lt_of_cell? w _ hw272_6)).trans hw272_6), ((HB.out.cell (World.block_lt_of_cell? w _ hw272_7)).trans hw272_7), ((HB.out.cell (World.block_lt_of_cell? w _ hw272_8)).trans hw272_8), ((HB.out.cell (World.block_lt_of_cell? w _ hw276_0)).trans hw276_0), ((HB.out.cell (World.block_lt_of_cell? w _ hw276_1)).trans hw276_1), ((HB.out.cell (World.block_lt_of_cell? w _ hw276_2)).trans hw276_2), ((HB.out.cell (World.block_lt_of_cell? w _ hw276_3)).trans hw276_3), ((HB.out.cell (World.block_lt_of_cell? w _ hw276_4)).trans hw276_4), ((HB.out.cell (World.block_lt_of_cell? w _ hw276_5)).trans hw276_5), ((HB.out.cell (World.block_lt_of_cell? w _ hw276_6)).trans hw276_6), ((HB.out.cell (World.block_lt_of_cell? w _ hw276_7)).trans hw276_7), ((HB.out.cell (World.block_lt_of_cell? w _ hw276_8)).trans hw276_8)⟩ (fun hHeld => ?_)
            clear hK K
            refine norm_ (a' := ?_) ?_ ?_
            rotate_left
            · show Act.put _ (some 22) _ = _
              simp only [Act.put, List.setIfInBounds_toArray, List.set_cons_zero, List.set_cons_succ, i64_w, i32_w]
              rfl
            refine one_ (i := 17) (N := some 28) #[true, true, true, true, true, true, true, true, true, true, true, true, true, true, true, true, true, true, false, false, false, false] rfl rfl (one_of HT_.out (by kernel_rfl)) (by decide) (fun K hK => ?_)
            refine goes_ Try.func16 (by kernel_rfl) rfl #[.agg #[.slice A271_6 ((rd_T76 l0 x4_1).f2.f0).length c271_6, .int .i64 ((rd_T76 l0 x4_1).f2.f1), .int .i64 ((rd_T76 l0 x4_1).f2.f2)]] (by rfl) rfl rfl (by (try simp only [List.map_toArray, List.map_cons, List.map_nil]); first | done | rfl | (simp only [List.length_drop, List.length_take]; rfl)) ?_
            with_reducible refine (ring_List.calls k1 _ _ ((rd_T76 l0 x4_1).f2.f0) ((rd_T76 l0 x4_1).f2.f1) ((rd_T76 l0 x4_1).f2.f2) t277 _ ?side1 ?side2 A5.out).mono ?_
            (case side1 => repeat (first | exact (Kd.C_below HR276_6.out HB.out) | (with_reducible refine Kd.C_alloc ?_ _) | (with_reducible refine Kd.C_drewN ?_ _) | (with_reducible refine Kd.C_drew ?_)))
            (case side2 => exact HC276_6.out)
            rintro e w9 ⟨v278, rfl, ho0, hb⟩
            refine ⟨_, rfl, ?_⟩
            have n0_ := Aside0.mk (Kd.S_elder' (by (with_reducible repeat (first | apply Kd.S_alloc | apply Kd.S_drewN | apply Kd.S_drew)); exact HO_3.out) (Kd.R_base ho0) hb)
            have n1_ := Aside0.mk (Kd.R_elder' (by (with_reducible repeat (first | apply Kd.R_alloc | apply Kd.R_drewN | apply Kd.R_drew)); exact HO275.out) (Kd.R_base ho0) hb)
            have n2_ := Aside0.mk (Kd.R_lower (Kd.R_new' ho0 (Kd.R_lt (by (with_reducible repeat (first | apply Kd.R_alloc | apply Kd.R_drewN | apply Kd.R_drew)); exact HO275.out))) (below_size (by repeat (first | (with_reducible first | exact HB.out | apply below_alloc | apply pw_below_drewN | apply below_drew1) | exact HB.out))))
            have n3_ := Aside0.mk (below_step (by repeat (first | (with_reducible first | exact HB.out | apply below_alloc | apply pw_below_drewN | apply below_drew1) | exact HB.out)) hb)
            clear HO_3
            clear HO275
            clear HB
            have HO_3 := n0_
            have HO275 := n1_
            have HO279 := n2_
            have HB := n3_
            clear n0_ n1_ n2_ n3_
            (try clear hb)
            (try clear hb2)
            (try clear hk)
            (try clear hi)
            (try clear ho0)
            obtain ⟨Ao10, co10, eo10⟩ := Kd.R_slice HO279.out
            (first | subst eo10 | (injection eo10 with f1_ f2_ f3_; have f4_ := f1_.symm; have f5_ := f3_.symm; clear f1_ f2_ f3_; subst f4_; subst f5_))
            obtain ⟨Ao11, co11, eo11⟩ := Kd.R_slice HO275.out
            (first | subst eo11 | (injection eo11 with f1_ f2_ f3_; have f4_ := f1_.symm; have f5_ := f3_.symm; clear f1_ f2_ f3_; subst f4_; subst f5_))
            refine hK.out _ _ ⟨((HB.out.cell (World.block_lt_of_cell? w _ hw271_0)).trans hw271_0), ((HB.out.cell (World.block_lt_of_cell? w _ hw271_1)).trans hw271_1), ((HB.out.cell (World.block_lt_of_cell? w _ hw271_2)).trans hw271_2), ((HB.out.cell (World.block_lt_of_cell? w _ hw271_3)).trans hw271_3), ((HB.out.cell (World.block_lt_of_cell? w _ hw271_4)).trans hw271_4), ((HB.out.cell (World.block_lt_of_cell? w _ hw271_5)).trans hw271_5), ((HB.out.cell (World.block_lt_of_cell? w _ hw271_6)).trans hw271_6), ((HB.out.cell (World.block_lt_of_cell? w _ hw271_7)).trans hw271_7), ((HB.out.cell (World.block_lt_of_cell? w _ hw271_8)).trans hw271_8), ((HB.out.cell (World.block_lt_of_cell? w _ hw272_0)).trans hw272_0), ((HB.out.cell (World.block_lt_of_cell? w _ hw272_1)).trans hw272_1), ((HB.out.cell (World.block_lt_of_cell? w _ hw272_2)).trans hw272_2), ((HB.out.cell (World.block_lt_of_cell? w _ hw272_3)).trans hw272_3), ((HB.out.cell (World.block_lt_of_cell? w _ hw272_4)).trans hw272_4), ((HB.out.cell (World.block_lt_of_cell? w _ hw272_5)).trans hw272_5), ((HB.out.cell (World.block_lt_of_cell? w _ hw272_6)).trans hw272_6), ((HB.out.cell (World.block_lt_of_cell? w _ hw272_7)).trans hw272_7), ((HB.out.cell (World.block_lt_of_cell? w _ hw272_8)).trans hw272_8), ((HB.out.cell (World.block_lt_of_cell? w _ hw276_0)).trans hw276_0), ((HB.out.cell (World.block_lt_of_cell? w _ hw276_1)).trans hw276_1), ((HB.out.cell (World.block_lt_of_cell? w _ hw276_2)).trans hw276_2), ((HB.out.cell (World.block_lt_of_cell? w _ hw276_3)).trans hw276_3), ((HB.out.cell (World.block_lt_of_cell? w _ hw276_4)).trans hw276_4), ((HB.out.cell (World.block_lt_of_cell? w _ hw276_5)).trans hw276_5), ((HB.out.cell (World.block_lt_of_cell? w _ hw276_6)).trans hw276_6), ((HB.out.cell (World.block_lt_of_cell? w _ hw276_7)).trans hw276_7), ((HB.out.cell (World.block_lt_of_cell? w _ hw276_8)).trans hw276_8)⟩ (fun hHeld => ?_)
            clear hK K
            refine norm_ (a' := ?_) ?_ ?_
            rotate_left
            · show Act.put _ (some 28) _ = _
              simp only [Act.put, List.setIfInBounds_toArray, List.set_cons_zero, List.set_cons_succ, i64_w, i32_w]
              rfl
            refine pure_ (i := 18) (N := some 29) (v := ?_) (a' := ?_) #[true, true, true, true, true, true, true, true, true, true, true, true, true, true, true, true, true, true, true, false, false, false] rfl rfl (any_of HT_.out (by kernel_rfl)) (fun _ _ _ h => h) (Or.inl ⟨by rfl, ?_⟩) ?_ ?_
            rotate_left
            · intro w'
              go_simp
              with_reducible rfl
            rotate_left
            · simp only [Act.put, List.setIfInBounds_toArray, List.set_cons_zero, List.set_cons_succ, i64_w, i32_w]
              rfl
            refine one_ (i := 19) (N := some 30) #[true, true, true, true, true, true, true, true, true, true, true, true, true, true, true, true, true, true, true, true, false, false] rfl rfl (one_of HT_.out (by kernel_rfl)) (by decide) (fun K hK => ?_)
            refine value_ (w1 := ?_) (v := ?_) (by rfl) rfl ?_ ?_
            rotate_left 2
            · go_simp
              constructor
              · rfl
              · rfl
            refine hK.out _ _ ⟨(World.cell?_alloc_lt _ _ _ (World.block_lt_of_cell? _ _ (((HB.out.cell (World.block_lt_of_cell? w _ hw271_0)).trans hw271_0)))).trans (((HB.out.cell (World.block_lt_of_cell? w _ hw271_0)).trans hw271_0)), (World.cell?_alloc_lt _ _ _ (World.block_lt_of_cell? _ _ (((HB.out.cell (World.block_lt_of_cell? w _ hw271_1)).trans hw271_1)))).trans (((HB.out.cell (World.block_lt_of_cell? w _ hw271_1)).trans hw271_1)), (World.cell?_alloc_lt _ _ _ (World.block_lt_of_cell? _ _ (((HB.out.cell (World.block_lt_of_cell? w _ hw271_2)).trans hw271_2)))).trans (((HB.out.cell (World.block_lt_of_cell? w _ hw271_2)).trans hw271_2)), (World.cell?_alloc_lt _ _ _ (World.block_lt_of_cell? _ _ (((HB.out.cell (World.block_lt_of_cell? w _ hw271_3)).trans hw271_3)))).trans (((HB.out.cell (World.block_lt_of_cell? w _ hw271_3)).trans hw271_3)), (World.cell?_alloc_lt _ _ _ (World.block_lt_of_cell? _ _ (((HB.out.cell (World.block_lt_of_cell? w _ hw271_4)).trans hw271_4)))).trans (((HB.out.cell (World.block_lt_of_cell? w _ hw271_4)).trans hw271_4)), (World.cell?_alloc_lt _ _ _ (World.block_lt_of_cell? _ _ (((HB.out.cell (World.block_lt_of_cell? w _ hw271_5)).trans hw271_5)))).trans (((HB.out.cell (World.block_lt_of_cell? w _ hw271_5)).trans hw271_5)), (World.cell?_alloc_lt _ _ _ (World.block_lt_of_cell? _ _ (((HB.out.cell (World.block_lt_of_cell? w _ hw271_6)).trans hw271_6)))).trans (((HB.out.cell (World.block_lt_of_cell? w _ hw271_6)).trans hw271_6)), (World.cell?_alloc_lt _ _ _ (World.block_lt_of_cell? _ _ (((HB.out.cell (World.block_lt_of_cell? w _ hw271_7)).trans hw271_7)))).trans (((HB.out.cell (World.block_lt_of_cell? w _ hw271_7)).trans hw271_7)), (World.cell?_alloc_lt _ _ _ (World.block_lt_of_cell? _ _ (((HB.out.cell (World.block_lt_of_cell? w _ hw271_8)).trans hw271_8)))).trans (((HB.out.cell (World.block_lt_of_cell? w _ hw271_8)).trans hw271_8)), (World.cell?_alloc_lt _ _ _ (World.block_lt_of_cell? _ _ (((HB.out.cell (World.block_lt_of_cell? w _ hw272_0)).trans hw272_0)))).trans (((HB.out.cell (World.block_lt_of_cell? w _ hw272_0)).trans hw272_0)), (World.cell?_alloc_lt _ _ _ (World.block_lt_of_cell? _ _ (((HB.out.cell (World.block_lt_of_cell? w _ hw272_1)).trans hw272_1)))).trans (((HB.out.cell (World.block_lt_of_cell? w _ hw272_1)).trans hw272_1)), (World.cell?_alloc_lt _ _ _ (World.block_lt_of_cell? _ _ (((HB.out.cell (World.block_lt_of_cell? w _ hw272_2)).trans hw272_2)))).trans (((HB.out.cell (World.block_lt_of_cell? w _ hw272_2)).trans hw272_2)), (World.cell?_alloc_lt _ _ _ (World.block_lt_of_cell? _ _ (((HB.out.cell (World.block_lt_of_cell? w _ hw272_3)).trans hw272_3)))).trans (((HB.out.cell (World.block_lt_of_cell? w _ hw272_3)).trans hw272_3)), (World.cell?_alloc_lt _ _ _ (World.block_lt_of_cell? _ _ (((HB.out.cell (World.block_lt_of_cell? w _ hw272_4)).trans hw272_4)))).trans (((HB.out.cell (World.block_lt_of_cell? w _ hw272_4)).trans hw272_4)), (World.cell?_alloc_lt _ _ _ (World.block_lt_of_cell? _ _ (((HB.out.cell (World.block_lt_of_cell? w _ hw272_5)).trans hw272_5)))).trans (((HB.out.cell (World.block_lt_of_cell? w _ hw272_5)).trans hw272_5)), (World.cell?_alloc_lt _ _ _ (World.block_lt_of_cell? _ _ (((HB.out.cell (World.block_lt_of_cell? w _ hw272_6)).trans hw272_6)))).trans (((HB.out.cell (World.block_lt_of_cell? w _ hw272_6)).trans hw272_6)), (World.cell?_alloc_lt _ _ _ (World.block_lt_of_cell? _ _ (((HB.out.cell (World.block_lt_of_cell? w _ hw272_7)).trans hw272_7)))).trans (((HB.out.cell (World.block_lt_of_cell? w _ hw272_7)).trans hw272_7)), (World.cell?_alloc_lt _ _ _ (World.block_lt_of_cell? _ _ (((HB.out.cell (World.block_lt_of_cell? w _ hw272_8)).trans hw272_8)))).trans (((HB.out.cell (World.block_lt_of_cell? w _ hw272_8)).trans hw272_8)), (World.cell?_alloc_lt _ _ _ (World.block_lt_of_cell? _ _ (((HB.out.cell (World.block_lt_of_cell? w _ hw276_0)).trans hw276_0)))).trans (((HB.out.cell (World.block_lt_of_cell? w _ hw276_0)).trans hw276_0)), (World.cell?_alloc_lt _ _ _ (World.block_lt_of_cell? _ _ (((HB.out.cell (World.block_lt_of_cell? w _ hw276_1)).trans hw276_1)))).trans (((HB.out.cell (World.block_lt_of_cell? w _ hw276_1)).trans hw276_1)), (World.cell?_alloc_lt _ _ _ (World.block_lt_of_cell? _ _ (((HB.out.cell (World.block_lt_of_cell? w _ hw276_2)).trans hw276_2)))).trans (((HB.out.cell (World.block_lt_of_cell? w _ hw276_2)).trans hw276_2)), (World.cell?_alloc_lt _ _ _ (World.block_lt_of_cell? _ _ (((HB.out.cell (World.block_lt_of_cell? w _ hw276_3)).trans hw276_3)))).trans (((HB.out.cell (World.block_lt_of_cell? w _ hw276_3)).trans hw276_3)), (World.cell?_alloc_lt _ _ _ (World.block_lt_of_cell? _ _ (((HB.out.cell (World.block_lt_of_cell? w _ hw276_4)).trans hw276_4)))).trans (((HB.out.cell (World.block_lt_of_cell? w _ hw276_4)).trans hw276_4)), (World.cell?_alloc_lt _ _ _ (World.block_lt_of_cell? _ _ (((HB.out.cell (World.block_lt_of_cell? w _ hw276_5)).trans hw276_5)))).trans (((HB.out.cell (World.block_lt_of_cell? w _ hw276_5)).trans hw276_5)), (World.cell?_alloc_lt _ _ _ (World.block_lt_of_cell? _ _ (((HB.out.cell (World.block_lt_of_cell? w _ hw276_6)).trans hw276_6)))).trans (((HB.out.cell (World.block_lt_of_cell? w _ hw276_6)).trans hw276_6)), (World.cell?_alloc_lt _ _ _ (World.block_lt_of_cell? _ _ (((HB.out.cell (World.block_lt_of_cell? w _ hw276_7)).trans hw276_7)))).trans (((HB.out.cell (World.block_lt_of_cell? w _ hw276_7)).trans hw276_7)), (World.cell?_alloc_lt _ _ _ (World.block_lt_of_cell? _ _ (((HB.out.cell (World.block_lt_of_cell? w _ hw276_8)).trans hw276_8)))).trans (((HB.out.cell (World.block_lt_of_cell? w _ hw276_8)).trans hw276_8))⟩ (fun hHeld => ?_)
            clear hK K
            refine norm_ (a' := ?_) ?_ ?_
            rotate_left
            · show Act.put _ (some 30) _ = _
              simp only [Act.put, List.setIfInBounds_toArray, List.set_cons_zero, List.set_cons_succ, i64_w, i32_w]
              rfl
            refine one_ (i := 20) (N := some 31) #[true, true, true, true, true, true, true, true, true, true, true, true, true, true, true, true, true, true, true, true, true, false] rfl rfl (one_of HT_.out (by kernel_rfl)) (by decide) (fun K hK => ?_)
            refine Kd.S_append_step k63 (w0 := w) w.heap.size (by rfl) (.tmp 11) (.tmp 30) 60 63 (.agg #[(.int .i64 0), (.int .i64 0), (.int .i64 0), (.slice none 0 0), (.slice none 0 0)]) 72 rfl Try.underlying60 info63 rfl (by decide) (by omega) u3 x3_1 (⟨(⟨(rd_T76 l0 x4_1).f0.f0, (rd_T76 l0 x4_1).f0.f1, (rd_T76 l0 x4_1).f0.f2⟩ : S51), t273, t277⟩ : S63) [.int .i64 ((rd_T76 l0 x4_1).f0.f0), .int .i64 ((rd_T76 l0 x4_1).f0.f1), .int .i64 ((rd_T76 l0 x4_1).f0.f2), .slice Ao11 t273.length co11, .slice Ao10 t277.length co10] (fun _ => True) (fun k_ => some k_ = (.slice Ao11 t273.length co11 : Value).ownBlock ∨ some k_ = (.slice Ao10 t277.length co10 : Value).ownBlock) rfl rfl ?aP (fun k_ hk_ => hk_.elim (fun h_ => ((Kd.R_mono (ok' := fun k_ => ((fun _ => True)) k_ ∧ some k_ ≠ (u3 : Value).ownBlock) (Kd.R_apart' (HO275.out) (Kd.S_typed HO_3.out) (by decide)) (fun k_ hk => ⟨trivial, hk.2⟩))).1 k_ h_.symm) (fun h_ => ((Kd.R_mono (ok' := fun k_ => ((fun _ => True)) k_ ∧ some k_ ≠ (u3 : Value).ownBlock) (Kd.R_apart' (HO279.out) (Kd.S_typed HO_3.out) (by decide)) (fun k_ hk => ⟨trivial, hk.2⟩))).1 k_ h_.symm)) ?aF ?aO ?aB ?aS ?aL ?_
            (case aP => exact k63_mkM _ _ _ (⟨(⟨(rd_T76 l0 x4_1).f0.f0, (rd_T76 l0 x4_1).f0.f1, (rd_T76 l0 x4_1).f0.f2⟩ : S51), t273, t277⟩ : S63) (Kd.R_mono (Kd.R_tight rfl (Kd.R_mono (ok' := fun k_ => ((fun _ => True)) k_ ∧ some k_ ≠ (u3 : Value).ownBlock) (Kd.R_apart' (HO275.out) (Kd.S_typed HO_3.out) (by decide)) (fun k_ hk => ⟨trivial, hk.2⟩))) (fun _ h_ => Or.inl h_)) (Kd.R_mono (Kd.R_tight rfl (Kd.R_mono (ok' := fun k_ => ((fun _ => True)) k_ ∧ some k_ ≠ (u3 : Value).ownBlock) (Kd.R_apart' (HO279.out) (Kd.S_typed HO_3.out) (by decide)) (fun k_ hk => ⟨trivial, hk.2⟩))) (fun _ h_ => Or.inr (h_))))
            (case aB => exact (by repeat (first | (with_reducible first | exact HB.out | apply below_alloc | apply pw_below_drewN | apply below_drew1) | exact HB.out)))
            (case aF => exact (fun _ _ => trivial))
            (case aO => exact (by (with_reducible repeat (first | apply Kd.S_alloc | apply Kd.S_drewN | apply Kd.S_drew)); exact Kd.S_mono HO_3.out (fun k_ hk => ⟨trivial, fun e_ => e_.elim (fun h_ => hk.1.2 h_) (fun h_ => hk.2 h_)⟩)))
            (case aS => exact (below_size (by repeat (first | (with_reducible first | exact HB.out | apply below_alloc | apply pw_below_drewN | apply below_drew1) | exact HB.out))))
            (case aL => have := LMc6.out; omega)
            intro v281 w12 ho hb hg hat
            rw [← Ny280.out] at ho
            have n0_ := Aside0.mk (hb)
            have n1_ := Aside0.mk (ho)
            clear HB
            clear HO_3
            clear HO275
            clear HO279
            have HB := n0_
            have HO282 := n1_
            clear n0_ n1_
            clear ho hb hg hat
            refine hK.out _ _ ⟨((HB.out.cell (World.block_lt_of_cell? w _ hw271_0)).trans hw271_0), ((HB.out.cell (World.block_lt_of_cell? w _ hw271_1)).trans hw271_1), ((HB.out.cell (World.block_lt_of_cell? w _ hw271_2)).trans hw271_2), ((HB.out.cell (World.block_lt_of_cell? w _ hw271_3)).trans hw271_3), ((HB.out.cell (World.block_lt_of_cell? w _ hw271_4)).trans hw271_4), ((HB.out.cell (World.block_lt_of_cell? w _ hw271_5)).trans hw271_5), ((HB.out.cell (World.block_lt_of_cell? w _ hw271_6)).trans hw271_6), ((HB.out.cell (World.block_lt_of_cell? w _ hw271_7)).trans hw271_7), ((HB.out.cell (World.block_lt_of_cell? w _ hw271_8)).trans hw271_8), ((HB.out.cell (World.block_lt_of_cell? w _ hw272_0)).trans hw272_0), ((HB.out.cell (World.block_lt_of_cell? w _ hw272_1)).trans hw272_1), ((HB.out.cell (World.block_lt_of_cell? w _ hw272_2)).trans hw272_2), ((HB.out.cell (World.block_lt_of_cell? w _ hw272_3)).trans hw272_3), ((HB.out.cell (World.block_lt_of_cell? w _ hw272_4)).trans hw272_4), ((HB.out.cell (World.block_lt_of_cell? w _ hw272_5)).trans hw272_5), ((HB.out.cell (World.block_lt_of_cell? w _ hw272_6)).trans hw272_6), ((HB.out.cell (World.block_lt_of_cell? w _ hw272_7)).trans hw272_7), ((HB.out.cell (World.block_lt_of_cell? w _ hw272_8)).trans hw272_8), ((HB.out.cell (World.block_lt_of_cell? w _ hw276_0)).trans hw276_0), ((HB.out.cell (World.block_lt_of_cell? w _ hw276_1)).trans hw276_1), ((HB.out.cell (World.block_lt_of_cell? w _ hw276_2)).trans hw276_2), ((HB.out.cell (World.block_lt_of_cell? w _ hw276_3)).trans hw276_3), ((HB.out.cell (World.block_lt_of_cell? w _ hw276_4)).trans hw276_4), ((HB.out.cell (World.block_lt_of_cell? w _ hw276_5)).trans hw276_5), ((HB.out.cell (World.block_lt_of_cell? w _ hw276_6)).trans hw276_6), ((HB.out.cell (World.block_lt_of_cell? w _ hw276_7)).trans hw276_7), ((HB.out.cell (World.block_lt_of_cell? w _ hw276_8)).trans hw276_8)⟩ (fun hHeld => ?_)
            clear hK K
            refine norm_ (a' := ?_) ?_ ?_
            rotate_left
            · show Act.put _ (some 31) _ = _
              simp only [Act.put, List.setIfInBounds_toArray, List.set_cons_zero, List.set_cons_succ, i64_w, i32_w]
              rfl
            refine pure_ (i := 21) (N := some 3) (v := ?_) (a' := ?_) #[true, true, true, true, true, true, true, true, true, true, true, true, true, true, true, true, true, true, true, true, true, true] rfl rfl (any_of HT_.out (by kernel_rfl)) (fun _ _ _ h => h) (Or.inl ⟨by rfl, ?_⟩) ?_ ?_
            rotate_left
            · intro w'
              go_simp
              with_reducible rfl
            rotate_left
            · simp only [Act.put, List.setIfInBounds_toArray, List.set_cons_zero, List.set_cons_succ, i64_w, i32_w]
              rfl
            refine done_ (done_of HT_.out (by kernel_rfl)) ?_
            try go_wp2
            go_roundg k1
            case measure => have := HK1.out; omega
            case rel => exact ⟨(y280), (wrap64 (x4_1 + 1)), (by first | rfl | (simp; done) | (simp [*]; done)), H', ⟨by have := HK1.out; omega⟩, ⟨by (with_reducible repeat (first | apply Kd.S_alloc | apply Kd.S_drewN | apply Kd.S_drew)); exact HO282.out⟩, ⟨by repeat (first | (with_reducible first | exact HB.out | apply below_alloc | apply pw_below_drewN | apply below_drew1) | exact HB.out)⟩⟩
          · rw [if_neg c6] at H
            exact absurd H (by simp)
        · rw [if_neg c3] at H
          exact absurd H (by simp)
      · rw [if_neg c2] at H
        have c2b0 : decide (x4_1 < (l0.length : Int)) = false := decide_eq_false c2
        clear c2
        obtain rfl := Option.some.inj H
        go_wp2
        go_ret
        exact ⟨_, by first | rfl | (rw [HR_.out] <;> rfl) | (simp [errW_none, errW_some] <;> rfl) | (simp [*, errW_none, errW_some] <;> rfl), by (with_reducible repeat (first | apply Kd.S_alloc | apply Kd.S_drewN | apply Kd.S_drew)); exact HO_3.out, by repeat (first | (with_reducible first | exact HB.out | apply below_alloc | apply pw_below_drewN | apply below_drew1) | exact HB.out)⟩

end Go.Proofs.Yteddflcloeelhaa.FOrd
