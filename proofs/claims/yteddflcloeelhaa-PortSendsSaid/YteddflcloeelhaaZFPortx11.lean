-- Written by the session (wip/tools) for this claim: functions of the program as Lean functions, and their contracts.
import Derived.Test.YteddflcloeelhaaZXShort
import Derived.Test.YteddflcloeelhaaZFPortx0
namespace Go.Proofs.Yteddflcloeelhaa.FPort
open Go.RowKit Go.Proofs.YteddflcloeelhaaW.PrintWords Go.Proofs.YteddflcloeelhaaW.PrintLast Go.Proofs.YteddflcloeelhaaW.PrintMore
attribute [local go_sem] max2_int min2_int max_two min_two max_three min_three max_four min_four   -- for this text's walks alone
set_option linter.unusedVariables false
set_option linter.unusedSimpArgs false

/-! ### remontoirref18_Send: function 36 -/
def remontoirref18_Send.j0 : Nat → List (S63) → Int → Int → Int → Bool → Option (Int × Int × Int × List Int × List Int × Int)
  | 0, _, _, _, _, _ => none
  | k + 1, x0, x1, x2, x3, x18 => if x18 = true then (some (0, 0, 0, ([] : List Int), ([] : List Int), 4)) else (if 0 ≤ x2 then (if x2 < (x0.length : Int) then (if ((rd_T63 x0 x2).f0.f0) = x1 then (if (((rd_T63 x0 x2).f1).length : Int) ≥ ((rd_T63 x0 x2).f0.f2) then (some ((rd_T63 x0 x2).f0.f0, (rd_T63 x0 x2).f0.f1, (rd_T63 x0 x2).f0.f2, (rd_T63 x0 x2).f1, (rd_T63 x0 x2).f2, 3)) else ((some (([] : List Int) : List Int)).bind fun y377 => (if y377.length + ((rd_T63 x0 x2).f1).length < 17592186044416 then ((some (y377 ++ ((rd_T63 x0 x2).f1) : List Int)).bind fun y380 => (if y380.length < 17592186044416 then (some ((rd_T63 x0 x2).f0.f0, (rd_T63 x0 x2).f0.f1, (rd_T63 x0 x2).f0.f2, (y380 ++ [x3]), (rd_T63 x0 x2).f2, 0)) else (none))) else (none)))) else (some ((rd_T63 x0 x2).f0.f0, (rd_T63 x0 x2).f0.f1, (rd_T63 x0 x2).f0.f2, (rd_T63 x0 x2).f1, (rd_T63 x0 x2).f2, 7))) else (none)) else (none))
def remontoirref18_Send.f (k : Nat) (l0 : List (S63)) (a1 : Int) (a2 : Int) (a3 : Int) : Option (Int × Int × Int × List Int × List Int × Int) := if a2 < 0 then (remontoirref18_Send.j0 k l0 a1 a2 a3 true) else (remontoirref18_Send.j0 k l0 a1 a2 a3 (decide (a2 ≥ (l0.length : Int))))
theorem remontoirref18_Send.mono_l : ∀ k, (∀ y0 y1 y2 y3 y4, LeO (remontoirref18_Send.j0 k y0 y1 y2 y3 y4) (remontoirref18_Send.j0 (k + 1) y0 y1 y2 y3 y4))
  | 0 => fun _ _ _ _ _ r h => by simp [remontoirref18_Send.j0] at h
  | k + 1 => by
    have ih0 := remontoirref18_Send.mono_l k
    · intro y0 y1 y2 y3 y4
      unfold remontoirref18_Send.j0
      repeat' (with_reducible exact LeO.refl _)
theorem remontoirref18_Send.mono : ∀ a0 a1 a2 a3 k, LeO (remontoirref18_Send.f k a0 a1 a2 a3) (remontoirref18_Send.f (k + 1) a0 a1 a2 a3) := by
  intro a0 a1 a2 a3 k
  have ih0 := remontoirref18_Send.mono_l k
  unfold remontoirref18_Send.f
  repeat' first | (with_reducible exact ih0 _ _ _ _ _) | (with_reducible refine LeO.ite ?_ ?_)
set_option maxHeartbeats 8000000 in
set_option maxRecDepth 100000 in
theorem remontoirref18_Send.calls (k : Nat) (P0_ : Nat → Prop) (A0 : Option Addr) (c0 : Nat) (l0 : List (S63)) (a1 : Int) (a2 : Int) (a3 : Int) (r1 : Int) (r2 : Int) (r3 : Int) (r4 : List Int) (r5 : List Int) (r6 : Int) (w : World) (hs0 : Kd.V k63 63 w w.heap.size (fun k_ => P0_ k_) (.slice A0 l0.length c0) l0) (h : remontoirref18_Send.f k l0 a1 a2 a3 = some (r1, r2, r3, r4, r5, r6)) :
    Calls Try.prog 36 #[.slice A0 l0.length c0, .int .i64 a1, .int .i64 a2, .int .i64 a3] w fun e w' => ∃ v3_ v4_ : Value, e = .returned (.tuple #[.agg #[.int .i64 r1, .int .i64 r2, .int .i64 r3, v3_, v4_], .int .i64 r6]) ∧ Kd.V (Kd.int .i64) 3 w' w.heap.size (fun k_ => (P0_ k_ ∨ w.heap.size ≤ k_)) v3_ r4 ∧ Kd.V (Kd.int .i64) 3 w' w.heap.size (fun k_ => (P0_ k_ ∨ w.heap.size ≤ k_)) v4_ r5 ∧ Below w.heap.size w w' := by
  have hu63 := Try.underlying63
  have HO0 := Aside0.mk (show Kd.V k63 63 w w.heap.size (fun k_ => (P0_ k_ ∨ w.heap.size ≤ k_)) (.slice A0 l0.length c0) l0 from Kd.V_mono hs0 (fun k_ hk => .inl hk))
  have HB := Aside0.mk (Below.refl w.heap.size w)
  have H : (if a2 < 0 then (remontoirref18_Send.j0 k l0 a1 a2 a3 true) else (remontoirref18_Send.j0 k l0 a1 a2 a3 (decide (a2 ≥ (l0.length : Int))))) = some (r1, r2, r3, r4, r5, r6) := h
  clear h
  have HC5 := Aside0.mk H
  clear H
  go_enter Try.func36, Try.ntmps36
  go_upto_region 1 with (((with_reducible refine gate_dst (N := 8) rfl ?_); (try (refine gate_guard (by rfl) ?_; dsimp only)); refine box_event ?hg (N := 8) ?hd (cs := #[.int .i64 0, .int .i64 0, .int .i64 0, .slice none 0 0, .slice none 0 0]) (t := 63) ?hr ?_; (case hd => rfl); (case hg => rfl); (case hr => (go_simp; done)); intro gb374 hg w6 hbox hb; have n0_ := Aside0.mk (Kd.V_below (Kd.V_elderB HO0.out gb374 (Nat.le_of_eq hg.symm)) hb); have n2_ := Aside0.mk (hbox); have n3_ := Aside0.mk ((by rw [hg]; exact (below_size HB.out) : w.heap.size ≤ gb374)); have n4_ := Aside0.mk ((by rw [hg]; exact (below_size HB.out) : w.heap.size ≤ gb374)); clear HO0; have HO0 := n0_; have BK374 := n2_; have GW374 := n3_; have GE374 := n4_; clear n0_ n2_ n3_ n4_; replace HB := hb_ HB hb; clear hb hbox hg))
  (try simp only [Act.put, List.setIfInBounds_toArray, List.set_cons_zero, List.set_cons_succ])
  go_cut [18] (fun v18 wc => ∃ (kq : Nat) (x18_4 : Bool), v18 = .bool x18_4 ∧ Aside0 (remontoirref18_Send.j0 kq l0 a1 a2 a3 x18_4 = some (r1, r2, r3, r4, r5, r6)) ∧ Aside0 (kq ≤ k) ∧ Aside0 (Kd.V k63 63 wc w.heap.size (fun k_ => (P0_ k_ ∨ w.heap.size ≤ k_) ∧ k_ ≠ gb374) (.slice A0 l0.length c0) l0) ∧ Aside0 (wc.heap[gb374]? = some (.cells #[.int .i64 0, .int .i64 0, .int .i64 0, (.slice none 0 0), (.slice none 0 0)] 63 (0, 0))) ∧ Aside0 (Below w.heap.size w wc))
  case first =>
    have H := HC5.out
    clear HC5
    by_cases c7 : a2 < 0
    · rw [if_pos c7] at H
      have c7b0 : decide (a2 < 0) = true := decide_eq_true c7
      clear c7
      (skip)
      have H' := Aside0.mk H
      clear H
      go_wp2
      go_meet
      case rel => exact ⟨_, (true), (by rfl), H', ⟨by omega⟩, ⟨HO0.out⟩, ⟨BK374.out⟩, ⟨HB.out⟩⟩
    · rw [if_neg c7] at H
      have c7b0 : decide (a2 < 0) = false := decide_eq_false c7
      clear c7
      (skip)
      have H' := Aside0.mk H
      clear H
      go_wp2
      go_meet
      case rel => exact ⟨_, (decide (a2 ≥ (l0.length : Int))), (by rfl), H', ⟨by omega⟩, ⟨HO0.out⟩, ⟨BK374.out⟩, ⟨HB.out⟩⟩
  case rest =>
    clear HC5
    try clear p2
    try clear c3
    try clear c7
    try clear c7b0
    obtain ⟨kq, x18_4, rfl, HA, HJ4, HO_0, BK374, HB⟩ := hcut
    cases kq with
    | zero => exact absurd HA.out (by simp [remontoirref18_Send.j0])
    | succ kj4 =>
      have H := HA.out
      clear HA
      simp only [remontoirref18_Send.j0] at H
      by_cases c8 : x18_4 = true
      · subst c8
        have H1 : (some (0, 0, 0, ([] : List Int), ([] : List Int), 4)) = some (r1, r2, r3, r4, r5, r6) := by rw [if_pos rfl] at H; exact H
        clear H
        have H := H1
        clear H1
        simp only [Option.some.injEq, Prod.mk.injEq] at H
        obtain ⟨rfl, rfl, rfl, rfl, rfl, rfl⟩ := H
        obtain ⟨_, _, _, _, _, _, _, _, _, _⟩ := bk5_ BK374.out
        go_wp2
        refine bodyPost_ret (results_ct rfl _ _ gb374 63 #[.int .i64 0, .int .i64 0, .int .i64 0, .slice none 0 0, .slice none 0 0] (0, 0) _ rfl (by exact bp5_ BK374.out) Try.underlying63 rfl (by kernel_rfl)) rfl ?_
        exact ⟨_, _, by rfl, Kd.V_nil _ _ _ _ _, Kd.V_nil _ _ _ _ _, by repeat ((with_reducible first | exact HB.out | refine below_set ?_ GE374.out))⟩
      · replace c8 := Bool.eq_false_iff.mpr c8
        subst c8
        have H1 : (if 0 ≤ a2 then (if a2 < (l0.length : Int) then (if ((rd_T63 l0 a2).f0.f0) = a1 then (if (((rd_T63 l0 a2).f1).length : Int) ≥ ((rd_T63 l0 a2).f0.f2) then (some ((rd_T63 l0 a2).f0.f0, (rd_T63 l0 a2).f0.f1, (rd_T63 l0 a2).f0.f2, (rd_T63 l0 a2).f1, (rd_T63 l0 a2).f2, 3)) else ((some (([] : List Int) : List Int)).bind fun y377 => (if y377.length + ((rd_T63 l0 a2).f1).length < 17592186044416 then ((some (y377 ++ ((rd_T63 l0 a2).f1) : List Int)).bind fun y380 => (if y380.length < 17592186044416 then (some ((rd_T63 l0 a2).f0.f0, (rd_T63 l0 a2).f0.f1, (rd_T63 l0 a2).f0.f2, (y380 ++ [a3]), (rd_T63 l0 a2).f2, 0)) else (none))) else (none)))) else (some ((rd_T63 l0 a2).f0.f0, (rd_T63 l0 a2).f0.f1, (rd_T63 l0 a2).f0.f2, (rd_T63 l0 a2).f1, (rd_T63 l0 a2).f2, 7))) else (none)) else (none)) = some (r1, r2, r3, r4, r5, r6) := by rw [if_neg (show ¬ (false = true) by decide)] at H; exact H
        clear H
        have H := H1
        clear H1
        by_cases c10 : 0 ≤ a2
        · rw [if_pos c10] at H
          have c10b0 : decide (0 ≤ a2) = true := decide_eq_true c10
          clear c10
          by_cases c11 : a2 < (l0.length : Int)
          · rw [if_pos c11] at H
            have c11b0 : decide (a2 < (l0.length : Int)) = true := decide_eq_true c11
            clear c11
            by_cases c12 : ((rd_T63 l0 a2).f0.f0) = a1
            · rw [if_pos c12] at H
              have c12b0 : (((rd_T63 l0 a2).f0.f0) == a1) = true := beq_iff_eq.mpr c12
              have c12b1 : (((rd_T63 l0 a2).f0.f0) != a1) = false := bne_eq_false_iff_eq.mpr c12
              clear c12
              by_cases c13 : (((rd_T63 l0 a2).f1).length : Int) ≥ ((rd_T63 l0 a2).f0.f2)
              · rw [if_pos c13] at H
                have c13b0 : decide (((rd_T63 l0 a2).f0.f2) ≤ (((rd_T63 l0 a2).f1).length : Int)) = true := decide_eq_true c13
                clear c13
                simp only [Option.some.injEq, Prod.mk.injEq] at H
                obtain ⟨rfl, rfl, rfl, rfl, rfl, rfl⟩ := H
                have p375 : 0 ≤ (a2 : Int) := of_decide_eq_true (by (with_reducible assumption))
                have q375 : a2 < (l0.length : Int) := of_decide_eq_true (by (with_reducible assumption))
                obtain ⟨ad375, A375_3, c375_3, A375_4, c375_4, e375, hx375_0, hx375_1, hx375_2, hx375_3, hx375_4, hl375_3, hi375_3, hl375_4, hi375_4⟩ := at_T63 (Kd.V_reads' HO_0.out).2.2 a2 p375 q375
                cases e375
                obtain ⟨ce375, hce375, hMe375, hcc375⟩ := Kd.V_get HO_0.out z63 a2 p375 q375
                obtain ⟨ua375_3, uc375_3, ua375_4, uc375_4, rfl, ul375_3, ge375_3, ul375_4, ge375_4⟩ := k63_openF hMe375
                have hv375_3 := hcc375 3 _ rfl
                rw [add_field _ _ 3 (by omega)] at hv375_3
                replace hv375_3 := Option.some.inj (hv375_3.symm.trans hx375_3)
                injection hv375_3 with hva_ hvn_ hvc_
                rw [hva_] at ge375_3
                rw [hvc_] at ul375_3
                have HL375_3 := Aside0.mk (show Kd.V (Kd.int .i64) 3 _ w.heap.size _ _ ((rd_T63 l0 a2).f1) from Kd.V_mk ul375_3 ge375_3)
                clear hva_ hvn_ hvc_ ge375_3 ul375_3
                have hv375_4 := hcc375 4 _ rfl
                rw [add_field _ _ 4 (by omega)] at hv375_4
                replace hv375_4 := Option.some.inj (hv375_4.symm.trans hx375_4)
                injection hv375_4 with hva_ hvn_ hvc_
                rw [hva_] at ge375_4
                rw [hvc_] at ul375_4
                have HL375_4 := Aside0.mk (show Kd.V (Kd.int .i64) 3 _ w.heap.size _ _ ((rd_T63 l0 a2).f2) from Kd.V_mk ul375_4 ge375_4)
                clear hva_ hvn_ hvc_ ge375_4 ul375_4
                clear hcc375 hce375
                have HR375_3 := Aside0.mk hi375_3
                have HC375_3 := Aside0.mk hl375_3
                clear hi375_3 hl375_3
                have HR375_4 := Aside0.mk hi375_4
                have HC375_4 := Aside0.mk hl375_4
                clear hi375_4 hl375_4
                replace p375 := eq_true p375
                replace q375 := eq_true q375
                go_wp2_with (((with_reducible refine gate_dst (N := 10) rfl ?_); (try (refine gate_guard (by rfl) ?_; dsimp only)); refine box_event ?hg (N := 10) ?hd (cs := #[.int .i64 0, .int .i64 0, .int .i64 0, .slice none 0 0, .slice none 0 0]) (t := 63) ?hr ?_; (case hd => rfl); (case hg => rfl); (case hr => (go_simp; done)); intro gb376 hg w14 hbox hb; have n0_ := Aside0.mk (Kd.V_below (Kd.V_elderB HO_0.out gb376 (Nat.le_of_eq hg.symm)) hb); have n1_ := Aside0.mk (Kd.V_below (Kd.V_elderB HL375_3.out gb376 (Nat.le_of_eq hg.symm)) hb); have n2_ := Aside0.mk (Kd.V_below (Kd.V_elderB HL375_4.out gb376 (Nat.le_of_eq hg.symm)) hb); have n4_ := Aside0.mk (Kd.C_below (by (exact (Kd.V_reads' HL375_3.out).2.2)) hb); have n5_ := Aside0.mk (Kd.C_below (by (exact (Kd.V_reads' HL375_4.out).2.2)) hb); have n7_ := Aside0.mk (hbox); have n8_ := Aside0.mk ((by rw [hg]; exact (below_size HB.out) : w.heap.size ≤ gb376)); have n9_ := Aside0.mk ((by rw [hg]; exact (below_size HB.out) : w.heap.size ≤ gb376)); have n10_ := Aside0.mk ((by rw [hg]; exact Nat.ne_of_lt (blk_lt BK374.out) : gb374 ≠ gb376)); have n11_ := Aside0.mk ((by rw [hg]; exact Nat.ne_of_gt (blk_lt BK374.out) : gb376 ≠ gb374)); clear HO_0 HL375_3 HL375_4 HR375_3 HR375_4; have HO_0 := n0_; have HL375_3 := n1_; have HL375_4 := n2_; have HR375_3 := n4_; have HR375_4 := n5_; have BK376 := n7_; have GW376 := n8_; have GE376 := n9_; have NB374_376 := n10_; have NB376_374 := n11_; clear n0_ n1_ n2_ n4_ n5_ n7_ n8_ n9_ n10_ n11_; replace BK374 := kb_ BK374 hb; replace HB := hb_ HB hb; clear hb hbox hg; have hnb15 := NB376_374.out; have hnc15 := NB374_376.out; obtain ⟨_, _, _, _, _, _, _, _, _, _⟩ := bk5_ BK376.out; obtain ⟨_, _, _, _, _, _, _, _, _, _⟩ := bk5_ BK374.out))
                refine bodyPost_ret (results_ct rfl _ _ gb374 63 #[.int .i64 ((rd_T63 l0 a2).f0.f0), .int .i64 ((rd_T63 l0 a2).f0.f1), .int .i64 ((rd_T63 l0 a2).f0.f2), .slice A375_3 ((rd_T63 l0 a2).f1).length c375_3, .slice A375_4 ((rd_T63 l0 a2).f2).length c375_4] (0, 0) _ rfl (by refine blk_put (cs := #[.int .i64 ((rd_T63 l0 a2).f0.f0), .int .i64 ((rd_T63 l0 a2).f0.f1), .int .i64 ((rd_T63 l0 a2).f0.f2), .slice A375_3 ((rd_T63 l0 a2).f1).length c375_3, .slice none 0 0]) ?_ 4 _ rfl; refine blk_put (cs := #[.int .i64 ((rd_T63 l0 a2).f0.f0), .int .i64 ((rd_T63 l0 a2).f0.f1), .int .i64 ((rd_T63 l0 a2).f0.f2), .slice none 0 0, .slice none 0 0]) ?_ 3 _ rfl; refine blk_put (cs := #[.int .i64 ((rd_T63 l0 a2).f0.f0), .int .i64 ((rd_T63 l0 a2).f0.f1), .int .i64 0, .slice none 0 0, .slice none 0 0]) ?_ 2 _ rfl; refine blk_put (cs := #[.int .i64 ((rd_T63 l0 a2).f0.f0), .int .i64 0, .int .i64 0, .slice none 0 0, .slice none 0 0]) ?_ 1 _ rfl; refine blk_put (cs := #[.int .i64 0, .int .i64 0, .int .i64 0, .slice none 0 0, .slice none 0 0]) ?_ 0 _ rfl; refine blk_far ?_ NB374_376.out _; refine blk_far ?_ NB374_376.out _; refine blk_far ?_ NB374_376.out _; refine blk_far ?_ NB374_376.out _; refine blk_far ?_ NB374_376.out _; exact BK374.out) Try.underlying63 rfl (by kernel_rfl)) rfl ?_
                exact ⟨_, _, by rfl, by exact Kd.V_mono (vf5_ (vf5_ (Kd.V_mono (Kd.V_mono HL375_3.out (fun k_ hk => (⟨hk, hk.2⟩ : _ ∧ k_ ≠ gb376))) (fun k_ hk => (⟨hk, hk.1.1.2⟩ : _ ∧ k_ ≠ gb374))) (fun _ hk => hk.1.2)) (fun _ hk => hk.2)) (fun _ hk => hk.1.1.1.1), by exact Kd.V_mono (vf5_ (vf5_ (Kd.V_mono (Kd.V_mono HL375_4.out (fun k_ hk => (⟨hk, hk.2⟩ : _ ∧ k_ ≠ gb376))) (fun k_ hk => (⟨hk, hk.1.1.2⟩ : _ ∧ k_ ≠ gb374))) (fun _ hk => hk.1.2)) (fun _ hk => hk.2)) (fun _ hk => hk.1.1.1.1), by repeat ((with_reducible first | exact HB.out | refine below_set ?_ GE374.out | refine below_set ?_ GE376.out))⟩
              · rw [if_neg c13] at H
                have c13b0 : decide (((rd_T63 l0 a2).f0.f2) ≤ (((rd_T63 l0 a2).f1).length : Int)) = false := decide_eq_false c13
                clear c13
                obtain ⟨y377, hy377⟩ : ∃ y_ : List Int, y_ = (([] : List Int)) := ⟨_, rfl⟩
                replace H : (if y377.length + ((rd_T63 l0 a2).f1).length < 17592186044416 then ((some (y377 ++ ((rd_T63 l0 a2).f1) : List Int)).bind fun y380 => (if y380.length < 17592186044416 then (some ((rd_T63 l0 a2).f0.f0, (rd_T63 l0 a2).f0.f1, (rd_T63 l0 a2).f0.f2, (y380 ++ [a3]), (rd_T63 l0 a2).f2, 0)) else (none))) else (none)) = some (r1, r2, r3, r4, r5, r6) := by (have H2_ := (Option.bind_some _ _).symm.trans H; rw [hy377]; with_reducible exact H2_)
                have Ny377 := Aside0.mk hy377
                clear hy377
                by_cases c18 : y377.length + ((rd_T63 l0 a2).f1).length < 17592186044416
                · rw [if_pos c18] at H
                  have LMc18 := Aside0.mk c18
                  clear c18
                  obtain ⟨y380, hy380⟩ : ∃ y_ : List Int, y_ = (y377 ++ ((rd_T63 l0 a2).f1)) := ⟨_, rfl⟩
                  replace H : (if y380.length < 17592186044416 then (some ((rd_T63 l0 a2).f0.f0, (rd_T63 l0 a2).f0.f1, (rd_T63 l0 a2).f0.f2, (y380 ++ [a3]), (rd_T63 l0 a2).f2, 0)) else (none)) = some (r1, r2, r3, r4, r5, r6) := by (have H2_ := (Option.bind_some _ _).symm.trans H; rw [hy380]; with_reducible exact H2_)
                  have Ny380 := Aside0.mk hy380
                  clear hy380
                  by_cases c19 : y380.length < 17592186044416
                  · rw [if_pos c19] at H
                    have LMc19 := Aside0.mk c19
                    clear c19
                    obtain ⟨y383, hy383⟩ : ∃ y_ : List Int, y_ = (y380 ++ [a3]) := ⟨_, rfl⟩
                    replace H : (some ((rd_T63 l0 a2).f0.f0, (rd_T63 l0 a2).f0.f1, (rd_T63 l0 a2).f0.f2, y383, (rd_T63 l0 a2).f2, 0)) = some (r1, r2, r3, r4, r5, r6) := by (rw [hy383]; with_reducible exact H)
                    have Ny383 := Aside0.mk hy383
                    clear hy383
                    simp only [Option.some.injEq, Prod.mk.injEq] at H
                    obtain ⟨rfl, rfl, rfl, rfl, rfl, rfl⟩ := H
                    have p375 : 0 ≤ (a2 : Int) := of_decide_eq_true (by (with_reducible assumption))
                    have q375 : a2 < (l0.length : Int) := of_decide_eq_true (by (with_reducible assumption))
                    obtain ⟨ad375, A375_3, c375_3, A375_4, c375_4, e375, hx375_0, hx375_1, hx375_2, hx375_3, hx375_4, hl375_3, hi375_3, hl375_4, hi375_4⟩ := at_T63 (Kd.V_reads' HO_0.out).2.2 a2 p375 q375
                    cases e375
                    obtain ⟨ce375, hce375, hMe375, hcc375⟩ := Kd.V_get HO_0.out z63 a2 p375 q375
                    obtain ⟨ua375_3, uc375_3, ua375_4, uc375_4, rfl, ul375_3, ge375_3, ul375_4, ge375_4⟩ := k63_openF hMe375
                    have hv375_3 := hcc375 3 _ rfl
                    rw [add_field _ _ 3 (by omega)] at hv375_3
                    replace hv375_3 := Option.some.inj (hv375_3.symm.trans hx375_3)
                    injection hv375_3 with hva_ hvn_ hvc_
                    rw [hva_] at ge375_3
                    rw [hvc_] at ul375_3
                    have HL375_3 := Aside0.mk (show Kd.V (Kd.int .i64) 3 _ w.heap.size _ _ ((rd_T63 l0 a2).f1) from Kd.V_mk ul375_3 ge375_3)
                    clear hva_ hvn_ hvc_ ge375_3 ul375_3
                    have hv375_4 := hcc375 4 _ rfl
                    rw [add_field _ _ 4 (by omega)] at hv375_4
                    replace hv375_4 := Option.some.inj (hv375_4.symm.trans hx375_4)
                    injection hv375_4 with hva_ hvn_ hvc_
                    rw [hva_] at ge375_4
                    rw [hvc_] at ul375_4
                    have HL375_4 := Aside0.mk (show Kd.V (Kd.int .i64) 3 _ w.heap.size _ _ ((rd_T63 l0 a2).f2) from Kd.V_mk ul375_4 ge375_4)
                    clear hva_ hvn_ hvc_ ge375_4 ul375_4
                    clear hcc375 hce375
                    have HR375_3 := Aside0.mk hi375_3
                    have HC375_3 := Aside0.mk hl375_3
                    clear hi375_3 hl375_3
                    have HR375_4 := Aside0.mk hi375_4
                    have HC375_4 := Aside0.mk hl375_4
                    clear hi375_4 hl375_4
                    replace p375 := eq_true p375
                    replace q375 := eq_true q375
                    go_wp2_with (first | ((with_reducible refine gate_dst (N := 10) rfl ?_); (try (refine gate_guard (by rfl) ?_; dsimp only)); refine box_event ?hg (N := 10) ?hd (cs := #[.int .i64 0, .int .i64 0, .int .i64 0, .slice none 0 0, .slice none 0 0]) (t := 63) ?hr ?_; (case hd => rfl); (case hg => rfl); (case hr => (go_simp; done)); intro gb376 hg w20 hbox hb; have n0_ := Aside0.mk (Kd.V_below (Kd.V_elderB HO_0.out gb376 (Nat.le_of_eq hg.symm)) hb); have n1_ := Aside0.mk (Kd.V_below (Kd.V_elderB HL375_3.out gb376 (Nat.le_of_eq hg.symm)) hb); have n2_ := Aside0.mk (Kd.V_below (Kd.V_elderB HL375_4.out gb376 (Nat.le_of_eq hg.symm)) hb); have n4_ := Aside0.mk (Kd.C_below (by (exact (Kd.V_reads' HL375_3.out).2.2)) hb); have n5_ := Aside0.mk (Kd.C_below (by (exact (Kd.V_reads' HL375_4.out).2.2)) hb); have n7_ := Aside0.mk (hbox); have n8_ := Aside0.mk ((by rw [hg]; exact (below_size HB.out) : w.heap.size ≤ gb376)); have n9_ := Aside0.mk ((by rw [hg]; exact (below_size HB.out) : w.heap.size ≤ gb376)); have n10_ := Aside0.mk ((by rw [hg]; exact Nat.ne_of_lt (blk_lt BK374.out) : gb374 ≠ gb376)); have n11_ := Aside0.mk ((by rw [hg]; exact Nat.ne_of_gt (blk_lt BK374.out) : gb376 ≠ gb374)); clear HO_0 HL375_3 HL375_4 HR375_3 HR375_4; have HO_0 := n0_; have HL375_3 := n1_; have HL375_4 := n2_; have HR375_3 := n4_; have HR375_4 := n5_; have BK376 := n7_; have GW376 := n8_; have GE376 := n9_; have NB374_376 := n10_; have NB376_374 := n11_; clear n0_ n1_ n2_ n4_ n5_ n7_ n8_ n9_ n10_ n11_; replace BK374 := kb_ BK374 hb; replace HB := hb_ HB hb; clear hb hbox hg; have hnb21 := NB376_374.out; have hnc21 := NB374_376.out; obtain ⟨_, _, _, _, _, _, _, _, _, _⟩ := bk5_ BK376.out) | ((with_reducible refine gate_dst (N := 38) rfl ?_); (try (refine gate_guard (by rfl) ?_; dsimp only)); refine Kd.R_lit (Kd.int .i64) _ 3 ?hg (N := 38) ?hd (xs := ([] : List Int)) (inner := []) (ok := fun _ => True) (okp := fun _ => True) ?hr ?hp (fun _ hk => hk) trivial (Below.refl _ _) (Nat.le_refl _) (by simp) ?_; (case hd => rfl); (case hg => rfl); (case hr => (go_simp; done)); (case hp => exact (Reps.none _ _)); intro v378 w23 ho24 hb hg_ hnew_; clear hg_ hnew_; ((rw [← Ny377.out] at ho24)); have n0_ := Aside0.mk (Kd.V_elder' (by exact (Kd.V_mono (vf5_ (Kd.V_mono HO_0.out (fun k_ hk => (⟨hk, hk.2⟩ : _ ∧ k_ ≠ gb376))) (fun _ hk => hk.2)) (fun _ h_ => h_.1))) (Kd.R_base ho24) hb); have n1_ := Aside0.mk (Kd.V_elder' (by exact (Kd.V_mono (vf5_ (Kd.V_mono HL375_3.out (fun k_ hk => (⟨hk, hk.2⟩ : _ ∧ k_ ≠ gb376))) (fun _ hk => hk.2)) (fun _ h_ => h_.1))) (Kd.R_base ho24) hb); have n2_ := Aside0.mk (Kd.V_elder' (by exact (Kd.V_mono (vf5_ (Kd.V_mono HL375_4.out (fun k_ hk => (⟨hk, hk.2⟩ : _ ∧ k_ ≠ gb376))) (fun _ hk => hk.2)) (fun _ h_ => h_.1))) (Kd.R_base ho24) hb); have n3_ := Aside0.mk (Kd.R_lower (Kd.R_newM (M := fun k_ => (w.heap.size ≤ k_)) ho24 (below_size (by repeat ((with_reducible first | exact HB.out | refine below_set ?_ GE376.out)))) (fun k_ h_ => h_)) (below_size (by repeat ((with_reducible first | exact HB.out | refine below_set ?_ GE376.out))))); have n4_ := Aside0.mk (blk_below (g := gb374) (o := .cells #[.int .i64 0, .int .i64 0, .int .i64 0, .slice none 0 0, .slice none 0 0] 63 (0, 0)) (by refine blk_far ?_ NB374_376.out _; refine blk_far ?_ NB374_376.out _; refine blk_far ?_ NB374_376.out _; refine blk_far ?_ NB374_376.out _; refine blk_far ?_ NB374_376.out _; exact BK374.out) hb); have n5_ := Aside0.mk (Kd.C_below ((Kd.V_reads' (by exact (Kd.V_mono (vf5_ (Kd.V_mono HL375_3.out (fun k_ hk => (⟨hk, hk.2⟩ : _ ∧ k_ ≠ gb376))) (fun _ hk => hk.2)) (fun _ h_ => h_.1)))).2.2) hb); have n6_ := Aside0.mk (Kd.C_below ((Kd.V_reads' (by exact (Kd.V_mono (vf5_ (Kd.V_mono HL375_4.out (fun k_ hk => (⟨hk, hk.2⟩ : _ ∧ k_ ≠ gb376))) (fun _ hk => hk.2)) (fun _ h_ => h_.1)))).2.2) hb); have n7_ := Aside0.mk (blk_below (g := gb376) (o := .cells #[.int .i64 ((rd_T63 l0 a2).f0.f0), .int .i64 ((rd_T63 l0 a2).f0.f1), .int .i64 ((rd_T63 l0 a2).f0.f2), .slice A375_3 ((rd_T63 l0 a2).f1).length c375_3, .slice A375_4 ((rd_T63 l0 a2).f2).length c375_4] 63 (0, 0)) (by exact bp5_ BK376.out) hb); have n8_ := Aside0.mk (below_step (by repeat ((with_reducible first | exact HB.out | refine below_set ?_ GE376.out))) hb); clear HO_0 HL375_3 HL375_4 BK374 HR375_3 HR375_4 BK376 HB; have HO_0 := n0_; have HL375_3 := n1_; have HL375_4 := n2_; have HO379 := n3_; have BK374 := n4_; have HR375_3 := n5_; have HR375_4 := n6_; have BK376 := n7_; have HB := n8_; clear n0_ n1_ n2_ n3_ n4_ n5_ n6_ n7_ n8_; clear hb ho24; obtain ⟨_, _, _, _, _, _, _, _, _, _⟩ := bk5_ BK376.out) | ((with_reducible refine gate_builtin (b := .append) (xs := #[.tmp 38, .tmp 40]) rfl ?_); (try (refine gate_guard (by rfl) ?_; dsimp only)); at_builtin; refine Kd.R_append_rows (Kd.int .i64) (w0 := w) w.heap.size rfl (.tmp 38) (.tmp 40) 22 3 (.int .i64 0) 8 rfl Try.underlying22 info3 rfl (by decide) (by omega) v378 y377 ((rd_T63 l0 a2).f1) _ _ _ (fun k_ => (w.heap.size ≤ k_)) (fun _ => False) rfl rfl ?aO ?aR (fun _ _ h => h) (fun _ h => h.elim) ?aF ?aB ?aS ?aL ?_; (case aR => repeat ((exact (by (exact (Kd.V_reads' HL375_3.out).2.2))))); (case aB => exact HB.out); (case aF => exact (fun k_ hk => (Nat.le_trans (below_size HB.out) hk))); (case aO => exact (by exact Kd.R_mono HO379.out (fun _ hk => hk.1))); (case aS => exact (below_size HB.out)); (case aL => have := LMc18.out; omega); intro v381 w26 ho hb hg hat; rw [← Ny380.out] at ho; have n0_ := Aside0.mk (Kd.V_afterv (ok := (fun k_ => (P0_ k_ ∨ w.heap.size ≤ k_) ∧ k_ ≠ gb374 ∧ k_ ≠ gb376)) (by exact Kd.V_mono HO_0.out (fun _ hk => ⟨⟨hk.1.1.1, ⟨hk.1.1.2, hk.1.2⟩⟩, hk.2⟩)) hg hat); have n1_ := Aside0.mk (blk_grown BK374.out hg (Kd.R_ne HO379.out BK374.out (by decide))); have n2_ := Aside0.mk (Kd.V_afterv (ok := (fun k_ => (P0_ k_ ∨ w.heap.size ≤ k_) ∧ k_ ≠ gb374 ∧ k_ ≠ gb376)) (by exact Kd.V_mono HL375_3.out (fun _ hk => ⟨⟨hk.1.1.1, ⟨hk.1.1.2, hk.1.2⟩⟩, hk.2⟩)) hg hat); have n3_ := Aside0.mk (Kd.V_afterv (ok := (fun k_ => (P0_ k_ ∨ w.heap.size ≤ k_) ∧ k_ ≠ gb374 ∧ k_ ≠ gb376)) (by exact Kd.V_mono HL375_4.out (fun _ hk => ⟨⟨hk.1.1.1, ⟨hk.1.1.2, hk.1.2⟩⟩, hk.2⟩)) hg hat); have n4_ := Aside0.mk (blk_grown BK376.out hg (Kd.R_ne HO379.out BK376.out (by decide))); have n5_ := Aside0.mk (hb); have n6_ := Aside0.mk (ho); clear HO_0 BK374 HL375_3 HL375_4 BK376 HB HO379; have HO_0 := n0_; have BK374 := n1_; have HL375_3 := n2_; have HL375_4 := n3_; have BK376 := n4_; have HB := n5_; have HO382 := n6_; clear n0_ n1_ n2_ n3_ n4_ n5_ n6_; clear ho hb hg hat) | ((with_reducible refine gate_builtin (b := .append) (xs := #[.tmp 41, .tmp 43]) rfl ?_); (try (refine gate_guard (by rfl) ?_; dsimp only)); at_builtin; refine Kd.R_append (Kd.int .i64) (w0 := w) w.heap.size rfl (.tmp 41) (.tmp 43) 22 3 (.int .i64 0) 8 rfl Try.underlying22 info3 rfl (by decide) (by omega) v381 y380 a3 [.int .i64 a3] (fun k_ => (w.heap.size ≤ k_)) (fun _ => False) rfl rfl ?aP (fun _ hk => hk.elim) ?aF ?aO ?aB ?aS ?aL ?_; (case aP => exact rfl); (case aB => exact HB.out); (case aF => exact (fun k_ hk => (Nat.le_trans (below_size HB.out) hk))); (case aO => exact HO382.out); (case aS => exact (below_size HB.out)); (case aL => have := LMc19.out; omega); intro v384 w27 ho hb hg hat; rw [← Ny383.out] at ho; have n0_ := Aside0.mk (Kd.V_afterv (ok := (fun k_ => (P0_ k_ ∨ w.heap.size ≤ k_) ∧ k_ ≠ gb374 ∧ k_ ≠ gb376)) HO_0.out hg hat); have n1_ := Aside0.mk (blk_grown BK374.out hg (Kd.R_ne HO382.out BK374.out (by decide))); have n2_ := Aside0.mk (Kd.V_afterv (ok := (fun k_ => (P0_ k_ ∨ w.heap.size ≤ k_) ∧ k_ ≠ gb374 ∧ k_ ≠ gb376)) HL375_3.out hg hat); have n3_ := Aside0.mk (Kd.V_afterv (ok := (fun k_ => (P0_ k_ ∨ w.heap.size ≤ k_) ∧ k_ ≠ gb374 ∧ k_ ≠ gb376)) HL375_4.out hg hat); have n4_ := Aside0.mk (blk_grown BK376.out hg (Kd.R_ne HO382.out BK376.out (by decide))); have n5_ := Aside0.mk (hb); have n6_ := Aside0.mk (ho); clear HO_0 BK374 HL375_3 HL375_4 BK376 HB HO382; have HO_0 := n0_; have BK374 := n1_; have HL375_3 := n2_; have HL375_4 := n3_; have BK376 := n4_; have HB := n5_; have HO385 := n6_; clear n0_ n1_ n2_ n3_ n4_ n5_ n6_; clear ho hb hg hat; obtain ⟨Ao28, co28, eo28⟩ := Kd.R_slice HO385.out; subst eo28; obtain ⟨_, _, _, _, _, _, _, _, _, _⟩ := bk5_ BK376.out; obtain ⟨_, _, _, _, _, _, _, _, _, _⟩ := bk5_ BK374.out))
                    refine bodyPost_ret (results_ct rfl _ _ gb374 63 #[.int .i64 ((rd_T63 l0 a2).f0.f0), .int .i64 ((rd_T63 l0 a2).f0.f1), .int .i64 ((rd_T63 l0 a2).f0.f2), .slice Ao28 y383.length co28, .slice A375_4 ((rd_T63 l0 a2).f2).length c375_4] (0, 0) _ rfl (by refine blk_put (cs := #[.int .i64 ((rd_T63 l0 a2).f0.f0), .int .i64 ((rd_T63 l0 a2).f0.f1), .int .i64 ((rd_T63 l0 a2).f0.f2), .slice Ao28 y383.length co28, .slice none 0 0]) ?_ 4 _ rfl; refine blk_put (cs := #[.int .i64 ((rd_T63 l0 a2).f0.f0), .int .i64 ((rd_T63 l0 a2).f0.f1), .int .i64 ((rd_T63 l0 a2).f0.f2), .slice none 0 0, .slice none 0 0]) ?_ 3 _ rfl; refine blk_put (cs := #[.int .i64 ((rd_T63 l0 a2).f0.f0), .int .i64 ((rd_T63 l0 a2).f0.f1), .int .i64 0, .slice none 0 0, .slice none 0 0]) ?_ 2 _ rfl; refine blk_put (cs := #[.int .i64 ((rd_T63 l0 a2).f0.f0), .int .i64 0, .int .i64 0, .slice none 0 0, .slice none 0 0]) ?_ 1 _ rfl; refine blk_put (cs := #[.int .i64 0, .int .i64 0, .int .i64 0, .slice none 0 0, .slice none 0 0]) ?_ 0 _ rfl; refine blk_far ?_ NB374_376.out _; exact BK374.out) Try.underlying63 rfl (by kernel_rfl)) rfl ?_
                    exact ⟨_, _, by rfl, Kd.V_mono (Kd.R_V (by exact Kd.R_mono (Kd.R_far (p := ⟨gb374, 4, none⟩) (Kd.R_far (p := ⟨gb374, 3, none⟩) (Kd.R_far (p := ⟨gb374, 2, none⟩) (Kd.R_far (p := ⟨gb374, 1, none⟩) (Kd.R_far (p := ⟨gb374, 0, none⟩) (Kd.R_far (p := ⟨gb376, 3, none⟩) (Kd.R_types (Kd.R_types HO385.out BK376.out (by decide)) BK374.out (by decide)) (fun _ hk => hk.1.2) (.slice Ao28 y383.length co28)) (fun _ hk => hk.2) (.int .i64 ((rd_T63 l0 a2).f0.f0))) (fun _ hk => hk.2) (.int .i64 ((rd_T63 l0 a2).f0.f1))) (fun _ hk => hk.2) (.int .i64 ((rd_T63 l0 a2).f0.f2))) (fun _ hk => hk.2) (.slice Ao28 y383.length co28)) (fun _ hk => hk.2) (.slice A375_4 ((rd_T63 l0 a2).f2).length c375_4)) (fun _ hk => hk.1.1))) (fun k_ hk => by (exact (.inr (hk)))), by exact Kd.V_mono (vf5_ (Kd.V_far (p := ⟨gb376, 3, none⟩) (Kd.V_mono (Kd.V_mono HL375_4.out (fun k_ hk => (⟨hk, hk.1.2.2⟩ : _ ∧ k_ ≠ gb376))) (fun k_ hk => (⟨hk, hk.1.1.2.1⟩ : _ ∧ k_ ≠ gb374))) (fun _ hk => hk.1.2) (.slice Ao28 y383.length co28)) (fun _ hk => hk.2)) (fun _ hk => hk.1.1.1.1), by repeat ((with_reducible first | exact HB.out | refine below_set ?_ GE374.out | refine below_set ?_ GE376.out))⟩
                  · rw [if_neg c19] at H
                    exact absurd H (by simp)
                · rw [if_neg c18] at H
                  exact absurd H (by simp)
            · rw [if_neg c12] at H
              have c12b0 : (((rd_T63 l0 a2).f0.f0) == a1) = false := beq_eq_false_iff_ne.mpr c12
              have c12b1 : (((rd_T63 l0 a2).f0.f0) != a1) = true := bne_iff_ne.mpr c12
              simp only [Option.some.injEq, Prod.mk.injEq] at H
              obtain ⟨rfl, rfl, rfl, rfl, rfl, rfl⟩ := H
              have p375 : 0 ≤ (a2 : Int) := of_decide_eq_true (by (with_reducible assumption))
              have q375 : a2 < (l0.length : Int) := of_decide_eq_true (by (with_reducible assumption))
              obtain ⟨ad375, A375_3, c375_3, A375_4, c375_4, e375, hx375_0, hx375_1, hx375_2, hx375_3, hx375_4, hl375_3, hi375_3, hl375_4, hi375_4⟩ := at_T63 (Kd.V_reads' HO_0.out).2.2 a2 p375 q375
              cases e375
              obtain ⟨ce375, hce375, hMe375, hcc375⟩ := Kd.V_get HO_0.out z63 a2 p375 q375
              obtain ⟨ua375_3, uc375_3, ua375_4, uc375_4, rfl, ul375_3, ge375_3, ul375_4, ge375_4⟩ := k63_openF hMe375
              have hv375_3 := hcc375 3 _ rfl
              rw [add_field _ _ 3 (by omega)] at hv375_3
              replace hv375_3 := Option.some.inj (hv375_3.symm.trans hx375_3)
              injection hv375_3 with hva_ hvn_ hvc_
              rw [hva_] at ge375_3
              rw [hvc_] at ul375_3
              have HL375_3 := Aside0.mk (show Kd.V (Kd.int .i64) 3 _ w.heap.size _ _ ((rd_T63 l0 a2).f1) from Kd.V_mk ul375_3 ge375_3)
              clear hva_ hvn_ hvc_ ge375_3 ul375_3
              have hv375_4 := hcc375 4 _ rfl
              rw [add_field _ _ 4 (by omega)] at hv375_4
              replace hv375_4 := Option.some.inj (hv375_4.symm.trans hx375_4)
              injection hv375_4 with hva_ hvn_ hvc_
              rw [hva_] at ge375_4
              rw [hvc_] at ul375_4
              have HL375_4 := Aside0.mk (show Kd.V (Kd.int .i64) 3 _ w.heap.size _ _ ((rd_T63 l0 a2).f2) from Kd.V_mk ul375_4 ge375_4)
              clear hva_ hvn_ hvc_ ge375_4 ul375_4
              clear hcc375 hce375
              have HR375_3 := Aside0.mk hi375_3
              have HC375_3 := Aside0.mk hl375_3
              clear hi375_3 hl375_3
              have HR375_4 := Aside0.mk hi375_4
              have HC375_4 := Aside0.mk hl375_4
              clear hi375_4 hl375_4
              replace p375 := eq_true p375
              replace q375 := eq_true q375
              go_wp2_with (((with_reducible refine gate_dst (N := 10) rfl ?_); (try (refine gate_guard (by rfl) ?_; dsimp only)); refine box_event ?hg (N := 10) ?hd (cs := #[.int .i64 0, .int .i64 0, .int .i64 0, .slice none 0 0, .slice none 0 0]) (t := 63) ?hr ?_; (case hd => rfl); (case hg => rfl); (case hr => (go_simp; done)); intro gb376 hg w31 hbox hb; have n0_ := Aside0.mk (Kd.V_below (Kd.V_elderB HO_0.out gb376 (Nat.le_of_eq hg.symm)) hb); have n1_ := Aside0.mk (Kd.V_below (Kd.V_elderB HL375_3.out gb376 (Nat.le_of_eq hg.symm)) hb); have n2_ := Aside0.mk (Kd.V_below (Kd.V_elderB HL375_4.out gb376 (Nat.le_of_eq hg.symm)) hb); have n4_ := Aside0.mk (Kd.C_below (by (exact (Kd.V_reads' HL375_3.out).2.2)) hb); have n5_ := Aside0.mk (Kd.C_below (by (exact (Kd.V_reads' HL375_4.out).2.2)) hb); have n7_ := Aside0.mk (hbox); have n8_ := Aside0.mk ((by rw [hg]; exact (below_size HB.out) : w.heap.size ≤ gb376)); have n9_ := Aside0.mk ((by rw [hg]; exact (below_size HB.out) : w.heap.size ≤ gb376)); have n10_ := Aside0.mk ((by rw [hg]; exact Nat.ne_of_lt (blk_lt BK374.out) : gb374 ≠ gb376)); have n11_ := Aside0.mk ((by rw [hg]; exact Nat.ne_of_gt (blk_lt BK374.out) : gb376 ≠ gb374)); clear HO_0 HL375_3 HL375_4 HR375_3 HR375_4; have HO_0 := n0_; have HL375_3 := n1_; have HL375_4 := n2_; have HR375_3 := n4_; have HR375_4 := n5_; have BK376 := n7_; have GW376 := n8_; have GE376 := n9_; have NB374_376 := n10_; have NB376_374 := n11_; clear n0_ n1_ n2_ n4_ n5_ n7_ n8_ n9_ n10_ n11_; replace BK374 := kb_ BK374 hb; replace HB := hb_ HB hb; clear hb hbox hg; have hnb32 := NB376_374.out; have hnc32 := NB374_376.out; obtain ⟨_, _, _, _, _, _, _, _, _, _⟩ := bk5_ BK376.out; obtain ⟨_, _, _, _, _, _, _, _, _, _⟩ := bk5_ BK374.out))
              refine bodyPost_ret (results_ct rfl _ _ gb374 63 #[.int .i64 ((rd_T63 l0 a2).f0.f0), .int .i64 ((rd_T63 l0 a2).f0.f1), .int .i64 ((rd_T63 l0 a2).f0.f2), .slice A375_3 ((rd_T63 l0 a2).f1).length c375_3, .slice A375_4 ((rd_T63 l0 a2).f2).length c375_4] (0, 0) _ rfl (by refine blk_put (cs := #[.int .i64 ((rd_T63 l0 a2).f0.f0), .int .i64 ((rd_T63 l0 a2).f0.f1), .int .i64 ((rd_T63 l0 a2).f0.f2), .slice A375_3 ((rd_T63 l0 a2).f1).length c375_3, .slice none 0 0]) ?_ 4 _ rfl; refine blk_put (cs := #[.int .i64 ((rd_T63 l0 a2).f0.f0), .int .i64 ((rd_T63 l0 a2).f0.f1), .int .i64 ((rd_T63 l0 a2).f0.f2), .slice none 0 0, .slice none 0 0]) ?_ 3 _ rfl; refine blk_put (cs := #[.int .i64 ((rd_T63 l0 a2).f0.f0), .int .i64 ((rd_T63 l0 a2).f0.f1), .int .i64 0, .slice none 0 0, .slice none 0 0]) ?_ 2 _ rfl; refine blk_put (cs := #[.int .i64 ((rd_T63 l0 a2).f0.f0), .int .i64 0, .int .i64 0, .slice none 0 0, .slice none 0 0]) ?_ 1 _ rfl; refine blk_put (cs := #[.int .i64 0, .int .i64 0, .int .i64 0, .slice none 0 0, .slice none 0 0]) ?_ 0 _ rfl; refine blk_far ?_ NB374_376.out _; refine blk_far ?_ NB374_376.out _; refine blk_far ?_ NB374_376.out _; refine blk_far ?_ NB374_376.out _; refine blk_far ?_ NB374_376.out _; exact BK374.out) Try.underlying63 rfl (by kernel_rfl)) rfl ?_
              exact ⟨_, _, by rfl, by exact Kd.V_mono (vf5_ (vf5_ (Kd.V_mono (Kd.V_mono HL375_3.out (fun k_ hk => (⟨hk, hk.2⟩ : _ ∧ k_ ≠ gb376))) (fun k_ hk => (⟨hk, hk.1.1.2⟩ : _ ∧ k_ ≠ gb374))) (fun _ hk => hk.1.2)) (fun _ hk => hk.2)) (fun _ hk => hk.1.1.1.1), by exact Kd.V_mono (vf5_ (vf5_ (Kd.V_mono (Kd.V_mono HL375_4.out (fun k_ hk => (⟨hk, hk.2⟩ : _ ∧ k_ ≠ gb376))) (fun k_ hk => (⟨hk, hk.1.1.2⟩ : _ ∧ k_ ≠ gb374))) (fun _ hk => hk.1.2)) (fun _ hk => hk.2)) (fun _ hk => hk.1.1.1.1), by repeat ((with_reducible first | exact HB.out | refine below_set ?_ GE374.out | refine below_set ?_ GE376.out))⟩
          · rw [if_neg c11] at H
            exact absurd H (by simp)
        · rw [if_neg c10] at H
          exact absurd H (by simp)

/-! ### remontoirref18_Read: function 37 -/
def remontoirref18_Read.j0 : Nat → List (S63) → Int → Int → Bool → Option (Int × Int × Int × Int × List Int × List Int × Int)
  | 0, _, _, _, _ => none
  | k + 1, x0, x1, x2, x18 => if x18 = true then (some (0, 0, 0, 0, ([] : List Int), ([] : List Int), 4)) else (if 0 ≤ x2 then (if x2 < (x0.length : Int) then (if ((rd_T63 x0 x2).f0.f1) = x1 then (if (((rd_T63 x0 x2).f2).length : Int) = 0 then (some (0, (rd_T63 x0 x2).f0.f0, (rd_T63 x0 x2).f0.f1, (rd_T63 x0 x2).f0.f2, (rd_T63 x0 x2).f1, (rd_T63 x0 x2).f2, 4)) else (if 0 < (((rd_T63 x0 x2).f2).length : Int) then (if 1 ≤ (((rd_T63 x0 x2).f2).length : Int) then (some (rd ((rd_T63 x0 x2).f2) 0, (rd_T63 x0 x2).f0.f0, (rd_T63 x0 x2).f0.f1, (rd_T63 x0 x2).f0.f2, (rd_T63 x0 x2).f1, (((rd_T63 x0 x2).f2).drop 1), 0)) else (none)) else (none))) else (some (0, (rd_T63 x0 x2).f0.f0, (rd_T63 x0 x2).f0.f1, (rd_T63 x0 x2).f0.f2, (rd_T63 x0 x2).f1, (rd_T63 x0 x2).f2, 7))) else (none)) else (none))
def remontoirref18_Read.f (k : Nat) (l0 : List (S63)) (a1 : Int) (a2 : Int) : Option (Int × Int × Int × Int × List Int × List Int × Int) := if a2 < 0 then (remontoirref18_Read.j0 k l0 a1 a2 true) else (remontoirref18_Read.j0 k l0 a1 a2 (decide (a2 ≥ (l0.length : Int))))
theorem remontoirref18_Read.mono_l : ∀ k, (∀ y0 y1 y2 y3, LeO (remontoirref18_Read.j0 k y0 y1 y2 y3) (remontoirref18_Read.j0 (k + 1) y0 y1 y2 y3))
  | 0 => fun _ _ _ _ r h => by simp [remontoirref18_Read.j0] at h
  | k + 1 => by
    have ih0 := remontoirref18_Read.mono_l k
    · intro y0 y1 y2 y3
      unfold remontoirref18_Read.j0
      repeat' (with_reducible exact LeO.refl _)
theorem remontoirref18_Read.mono : ∀ a0 a1 a2 k, LeO (remontoirref18_Read.f k a0 a1 a2) (remontoirref18_Read.f (k + 1) a0 a1 a2) := by
  intro a0 a1 a2 k
  have ih0 := remontoirref18_Read.mono_l k
  unfold remontoirref18_Read.f
  repeat' first | (with_reducible exact ih0 _ _ _ _) | (with_reducible refine LeO.ite ?_ ?_)
set_option maxHeartbeats 8000000 in
set_option maxRecDepth 100000 in
theorem remontoirref18_Read.calls (k : Nat) (P0_ : Nat → Prop) (A0 : Option Addr) (c0 : Nat) (l0 : List (S63)) (a1 : Int) (a2 : Int) (r1 : Int) (r2 : Int) (r3 : Int) (r4 : Int) (r5 : List Int) (r6 : List Int) (r7 : Int) (w : World) (hs0 : Kd.V k63 63 w w.heap.size (fun k_ => P0_ k_) (.slice A0 l0.length c0) l0) (h : remontoirref18_Read.f k l0 a1 a2 = some (r1, r2, r3, r4, r5, r6, r7)) :
    Calls Try.prog 37 #[.slice A0 l0.length c0, .int .i64 a1, .int .i64 a2] w fun e w' => ∃ v4_ v5_ : Value, e = .returned (.tuple #[.int .i64 r1, .agg #[.int .i64 r2, .int .i64 r3, .int .i64 r4, v4_, v5_], .int .i64 r7]) ∧ Kd.V (Kd.int .i64) 3 w' w.heap.size (fun k_ => (P0_ k_ ∨ w.heap.size ≤ k_)) v4_ r5 ∧ Kd.V (Kd.int .i64) 3 w' w.heap.size (fun k_ => (P0_ k_ ∨ w.heap.size ≤ k_)) v5_ r6 ∧ Below w.heap.size w w' := by
  have hu63 := Try.underlying63
  have HO0 := Aside0.mk (show Kd.V k63 63 w w.heap.size (fun k_ => (P0_ k_ ∨ w.heap.size ≤ k_)) (.slice A0 l0.length c0) l0 from Kd.V_mono hs0 (fun k_ hk => .inl hk))
  have HB := Aside0.mk (Below.refl w.heap.size w)
  have H : (if a2 < 0 then (remontoirref18_Read.j0 k l0 a1 a2 true) else (remontoirref18_Read.j0 k l0 a1 a2 (decide (a2 ≥ (l0.length : Int))))) = some (r1, r2, r3, r4, r5, r6, r7) := h
  clear h
  have HC4 := Aside0.mk H
  clear H
  go_enter Try.func37, Try.ntmps37
  go_upto_region 1 with (((with_reducible refine gate_dst (N := 7) rfl ?_); (try (refine gate_guard (by rfl) ?_; dsimp only)); refine box_event ?hg (N := 7) ?hd (cs := #[.int .i64 0, .int .i64 0, .int .i64 0, .slice none 0 0, .slice none 0 0]) (t := 63) ?hr ?_; (case hd => rfl); (case hg => rfl); (case hr => (go_simp; done)); intro gb386 hg w5 hbox hb; have n0_ := Aside0.mk (Kd.V_below (Kd.V_elderB HO0.out gb386 (Nat.le_of_eq hg.symm)) hb); have n2_ := Aside0.mk (hbox); have n3_ := Aside0.mk ((by rw [hg]; exact (below_size HB.out) : w.heap.size ≤ gb386)); have n4_ := Aside0.mk ((by rw [hg]; exact (below_size HB.out) : w.heap.size ≤ gb386)); clear HO0; have HO0 := n0_; have BK386 := n2_; have GW386 := n3_; have GE386 := n4_; clear n0_ n2_ n3_ n4_; replace HB := hb_ HB hb; clear hb hbox hg))
  (try simp only [Act.put, List.setIfInBounds_toArray, List.set_cons_zero, List.set_cons_succ])
  go_cut [18] (fun v18 wc => ∃ (kq : Nat) (x18_3 : Bool), v18 = .bool x18_3 ∧ Aside0 (remontoirref18_Read.j0 kq l0 a1 a2 x18_3 = some (r1, r2, r3, r4, r5, r6, r7)) ∧ Aside0 (kq ≤ k) ∧ Aside0 (Kd.V k63 63 wc w.heap.size (fun k_ => (P0_ k_ ∨ w.heap.size ≤ k_) ∧ k_ ≠ gb386) (.slice A0 l0.length c0) l0) ∧ Aside0 (wc.heap[gb386]? = some (.cells #[.int .i64 0, .int .i64 0, .int .i64 0, (.slice none 0 0), (.slice none 0 0)] 63 (0, 0))) ∧ Aside0 (Below w.heap.size w wc))
  case first =>
    have H := HC4.out
    clear HC4
    by_cases c6 : a2 < 0
    · rw [if_pos c6] at H
      have c6b0 : decide (a2 < 0) = true := decide_eq_true c6
      clear c6
      (skip)
      have H' := Aside0.mk H
      clear H
      go_wp2
      go_meet
      case rel => exact ⟨_, (true), (by rfl), H', ⟨by omega⟩, ⟨HO0.out⟩, ⟨BK386.out⟩, ⟨HB.out⟩⟩
    · rw [if_neg c6] at H
      have c6b0 : decide (a2 < 0) = false := decide_eq_false c6
      clear c6
      (skip)
      have H' := Aside0.mk H
      clear H
      go_wp2
      go_meet
      case rel => exact ⟨_, (decide (a2 ≥ (l0.length : Int))), (by rfl), H', ⟨by omega⟩, ⟨HO0.out⟩, ⟨BK386.out⟩, ⟨HB.out⟩⟩
  case rest =>
    clear HC4
    try clear p2
    try clear c3
    try clear c6
    try clear c6b0
    obtain ⟨kq, x18_3, rfl, HA, HJ3, HO_0, BK386, HB⟩ := hcut
    cases kq with
    | zero => exact absurd HA.out (by simp [remontoirref18_Read.j0])
    | succ kj3 =>
      have H := HA.out
      clear HA
      simp only [remontoirref18_Read.j0] at H
      by_cases c7 : x18_3 = true
      · subst c7
        have H1 : (some (0, 0, 0, 0, ([] : List Int), ([] : List Int), 4)) = some (r1, r2, r3, r4, r5, r6, r7) := by rw [if_pos rfl] at H; exact H
        clear H
        have H := H1
        clear H1
        simp only [Option.some.injEq, Prod.mk.injEq] at H
        obtain ⟨rfl, rfl, rfl, rfl, rfl, rfl, rfl⟩ := H
        obtain ⟨_, _, _, _, _, _, _, _, _, _⟩ := bk5_ BK386.out
        go_wp2
        refine bodyPost_ret (results_list (rs := [.tmp 6, .cell 7 63, .tmp 8]) rfl (by simp) (.tmp (.cell gb386 63 #[.int .i64 0, .int .i64 0, .int .i64 0, .slice none 0 0, .slice none 0 0] (0, 0) _ rfl (by exact bp5_ BK386.out) Try.underlying63 rfl (by kernel_rfl) (.tmp .nil)))) rfl ?_
        exact ⟨_, _, by rfl, Kd.V_nil _ _ _ _ _, Kd.V_nil _ _ _ _ _, by repeat ((with_reducible first | exact HB.out | refine below_set ?_ GE386.out))⟩
      · replace c7 := Bool.eq_false_iff.mpr c7
        subst c7
        have H1 : (if 0 ≤ a2 then (if a2 < (l0.length : Int) then (if ((rd_T63 l0 a2).f0.f1) = a1 then (if (((rd_T63 l0 a2).f2).length : Int) = 0 then (some (0, (rd_T63 l0 a2).f0.f0, (rd_T63 l0 a2).f0.f1, (rd_T63 l0 a2).f0.f2, (rd_T63 l0 a2).f1, (rd_T63 l0 a2).f2, 4)) else (if 0 < (((rd_T63 l0 a2).f2).length : Int) then (if 1 ≤ (((rd_T63 l0 a2).f2).length : Int) then (some (rd ((rd_T63 l0 a2).f2) 0, (rd_T63 l0 a2).f0.f0, (rd_T63 l0 a2).f0.f1, (rd_T63 l0 a2).f0.f2, (rd_T63 l0 a2).f1, (((rd_T63 l0 a2).f2).drop 1), 0)) else (none)) else (none))) else (some (0, (rd_T63 l0 a2).f0.f0, (rd_T63 l0 a2).f0.f1, (rd_T63 l0 a2).f0.f2, (rd_T63 l0 a2).f1, (rd_T63 l0 a2).f2, 7))) else (none)) else (none)) = some (r1, r2, r3, r4, r5, r6, r7) := by rw [if_neg (show ¬ (false = true) by decide)] at H; exact H
        clear H
        have H := H1
        clear H1
        by_cases c9 : 0 ≤ a2
        · rw [if_pos c9] at H
          have c9b0 : decide (0 ≤ a2) = true := decide_eq_true c9
          clear c9
          by_cases c10 : a2 < (l0.length : Int)
          · rw [if_pos c10] at H
            have c10b0 : decide (a2 < (l0.length : Int)) = true := decide_eq_true c10
            clear c10
            by_cases c11 : ((rd_T63 l0 a2).f0.f1) = a1
            · rw [if_pos c11] at H
              have c11b0 : (((rd_T63 l0 a2).f0.f1) == a1) = true := beq_iff_eq.mpr c11
              have c11b1 : (((rd_T63 l0 a2).f0.f1) != a1) = false := bne_eq_false_iff_eq.mpr c11
              clear c11
              by_cases c12 : (((rd_T63 l0 a2).f2).length : Int) = 0
              · rw [if_pos c12] at H
                have c12b0 : ((((rd_T63 l0 a2).f2).length : Int) == 0) = true := beq_iff_eq.mpr c12
                have c12b1 : ((((rd_T63 l0 a2).f2).length : Int) != 0) = false := bne_eq_false_iff_eq.mpr c12
                clear c12
                simp only [Option.some.injEq, Prod.mk.injEq] at H
                obtain ⟨rfl, rfl, rfl, rfl, rfl, rfl, rfl⟩ := H
                have p387 : 0 ≤ (a2 : Int) := of_decide_eq_true (by (with_reducible assumption))
                have q387 : a2 < (l0.length : Int) := of_decide_eq_true (by (with_reducible assumption))
                obtain ⟨ad387, A387_3, c387_3, A387_4, c387_4, e387, hx387_0, hx387_1, hx387_2, hx387_3, hx387_4, hl387_3, hi387_3, hl387_4, hi387_4⟩ := at_T63 (Kd.V_reads' HO_0.out).2.2 a2 p387 q387
                cases e387
                obtain ⟨ce387, hce387, hMe387, hcc387⟩ := Kd.V_get HO_0.out z63 a2 p387 q387
                obtain ⟨ua387_3, uc387_3, ua387_4, uc387_4, rfl, ul387_3, ge387_3, ul387_4, ge387_4⟩ := k63_openF hMe387
                have hv387_3 := hcc387 3 _ rfl
                rw [add_field _ _ 3 (by omega)] at hv387_3
                replace hv387_3 := Option.some.inj (hv387_3.symm.trans hx387_3)
                injection hv387_3 with hva_ hvn_ hvc_
                rw [hva_] at ge387_3
                rw [hvc_] at ul387_3
                have HL387_3 := Aside0.mk (show Kd.V (Kd.int .i64) 3 _ w.heap.size _ _ ((rd_T63 l0 a2).f1) from Kd.V_mk ul387_3 ge387_3)
                clear hva_ hvn_ hvc_ ge387_3 ul387_3
                have hv387_4 := hcc387 4 _ rfl
                rw [add_field _ _ 4 (by omega)] at hv387_4
                replace hv387_4 := Option.some.inj (hv387_4.symm.trans hx387_4)
                injection hv387_4 with hva_ hvn_ hvc_
                rw [hva_] at ge387_4
                rw [hvc_] at ul387_4
                have HL387_4 := Aside0.mk (show Kd.V (Kd.int .i64) 3 _ w.heap.size _ _ ((rd_T63 l0 a2).f2) from Kd.V_mk ul387_4 ge387_4)
                clear hva_ hvn_ hvc_ ge387_4 ul387_4
                clear hcc387 hce387
                have HR387_3 := Aside0.mk hi387_3
                have HC387_3 := Aside0.mk hl387_3
                clear hi387_3 hl387_3
                have HR387_4 := Aside0.mk hi387_4
                have HC387_4 := Aside0.mk hl387_4
                clear hi387_4 hl387_4
                replace p387 := eq_true p387
                replace q387 := eq_true q387
                try go_wp2_with (((with_reducible refine gate_dst (N := 9) rfl ?_); (try (refine gate_guard (by rfl) ?_; dsimp only)); refine box_event ?hg (N := 9) ?hd (cs := #[.int .i64 0, .int .i64 0, .int .i64 0, .slice none 0 0, .slice none 0 0]) (t := 63) ?hr ?_; (case hd => rfl); (case hg => rfl); (case hr => (go_simp; done)); intro gb388 hg w13 hbox hb; have n0_ := Aside0.mk (Kd.V_below (Kd.V_elderB HO_0.out gb388 (Nat.le_of_eq hg.symm)) hb); have n1_ := Aside0.mk (Kd.V_below (Kd.V_elderB HL387_3.out gb388 (Nat.le_of_eq hg.symm)) hb); have n2_ := Aside0.mk (Kd.V_below (Kd.V_elderB HL387_4.out gb388 (Nat.le_of_eq hg.symm)) hb); have n4_ := Aside0.mk (Kd.C_below (by (exact (Kd.V_reads' HL387_3.out).2.2)) hb); have n5_ := Aside0.mk (Kd.C_below (by (exact (Kd.V_reads' HL387_4.out).2.2)) hb); have n7_ := Aside0.mk (hbox); have n8_ := Aside0.mk ((by rw [hg]; exact (below_size HB.out) : w.heap.size ≤ gb388)); have n9_ := Aside0.mk ((by rw [hg]; exact (below_size HB.out) : w.heap.size ≤ gb388)); have n10_ := Aside0.mk ((by rw [hg]; exact Nat.ne_of_lt (blk_lt BK386.out) : gb386 ≠ gb388)); have n11_ := Aside0.mk ((by rw [hg]; exact Nat.ne_of_gt (blk_lt BK386.out) : gb388 ≠ gb386)); clear HO_0 HL387_3 HL387_4 HR387_3 HR387_4; have HO_0 := n0_; have HL387_3 := n1_; have HL387_4 := n2_; have HR387_3 := n4_; have HR387_4 := n5_; have BK388 := n7_; have GW388 := n8_; have GE388 := n9_; have NB386_388 := n10_; have NB388_386 := n11_; clear n0_ n1_ n2_ n4_ n5_ n7_ n8_ n9_ n10_ n11_; replace BK386 := kb_ BK386 hb; replace HB := hb_ HB hb; clear hb hbox hg; have hnb14 := NB388_386.out; have hnc14 := NB386_388.out; obtain ⟨_, _, _, _, _, _, _, _, _, _⟩ := bk5_ BK388.out))
                have n0_ : Aside0 (Kd.V k63 63 (((((w13.setCell ⟨gb388, 0, none⟩ (.int .i64 ((rd_T63 l0 a2).f0.f0))).setCell ⟨gb388, 1, none⟩ (.int .i64 ((rd_T63 l0 a2).f0.f1))).setCell ⟨gb388, 2, none⟩ (.int .i64 ((rd_T63 l0 a2).f0.f2))).setCell ⟨gb388, 3, none⟩ (.slice A387_3 ((rd_T63 l0 a2).f1).length c387_3)).setCell ⟨gb388, 4, none⟩ (.slice A387_4 ((rd_T63 l0 a2).f2).length c387_4)) w.heap.size (fun k_ => (P0_ k_ ∨ w.heap.size ≤ k_) ∧ k_ ≠ gb386 ∧ k_ ≠ gb388) (.slice (some ad387) l0.length c0) l0) := ⟨by exact Kd.V_mono (vf5_ (Kd.V_mono HO_0.out (fun k_ hk => (⟨hk, hk.2⟩ : _ ∧ k_ ≠ gb388))) (fun _ hk => hk.2)) (fun _ hk => ⟨hk.1.1.1, ⟨hk.1.1.2, hk.1.2⟩⟩)⟩
                have n1_ : Aside0 (Kd.V (Kd.int .i64) 3 (((((w13.setCell ⟨gb388, 0, none⟩ (.int .i64 ((rd_T63 l0 a2).f0.f0))).setCell ⟨gb388, 1, none⟩ (.int .i64 ((rd_T63 l0 a2).f0.f1))).setCell ⟨gb388, 2, none⟩ (.int .i64 ((rd_T63 l0 a2).f0.f2))).setCell ⟨gb388, 3, none⟩ (.slice A387_3 ((rd_T63 l0 a2).f1).length c387_3)).setCell ⟨gb388, 4, none⟩ (.slice A387_4 ((rd_T63 l0 a2).f2).length c387_4)) w.heap.size (fun k_ => (P0_ k_ ∨ w.heap.size ≤ k_) ∧ k_ ≠ gb386 ∧ k_ ≠ gb388) (.slice A387_3 ((rd_T63 l0 a2).f1).length c387_3) ((rd_T63 l0 a2).f1)) := ⟨by exact Kd.V_mono (vf5_ (Kd.V_mono HL387_3.out (fun k_ hk => (⟨hk, hk.2⟩ : _ ∧ k_ ≠ gb388))) (fun _ hk => hk.2)) (fun _ hk => ⟨hk.1.1.1, ⟨hk.1.1.2, hk.1.2⟩⟩)⟩
                have n2_ : Aside0 (Kd.V (Kd.int .i64) 3 (((((w13.setCell ⟨gb388, 0, none⟩ (.int .i64 ((rd_T63 l0 a2).f0.f0))).setCell ⟨gb388, 1, none⟩ (.int .i64 ((rd_T63 l0 a2).f0.f1))).setCell ⟨gb388, 2, none⟩ (.int .i64 ((rd_T63 l0 a2).f0.f2))).setCell ⟨gb388, 3, none⟩ (.slice A387_3 ((rd_T63 l0 a2).f1).length c387_3)).setCell ⟨gb388, 4, none⟩ (.slice A387_4 ((rd_T63 l0 a2).f2).length c387_4)) w.heap.size (fun k_ => (P0_ k_ ∨ w.heap.size ≤ k_) ∧ k_ ≠ gb386 ∧ k_ ≠ gb388) (.slice A387_4 ((rd_T63 l0 a2).f2).length c387_4) ((rd_T63 l0 a2).f2)) := ⟨by exact Kd.V_mono (vf5_ (Kd.V_mono HL387_4.out (fun k_ hk => (⟨hk, hk.2⟩ : _ ∧ k_ ≠ gb388))) (fun _ hk => hk.2)) (fun _ hk => ⟨hk.1.1.1, ⟨hk.1.1.2, hk.1.2⟩⟩)⟩
                have n3_ : Aside0 ((((((w13.setCell ⟨gb388, 0, none⟩ (.int .i64 ((rd_T63 l0 a2).f0.f0))).setCell ⟨gb388, 1, none⟩ (.int .i64 ((rd_T63 l0 a2).f0.f1))).setCell ⟨gb388, 2, none⟩ (.int .i64 ((rd_T63 l0 a2).f0.f2))).setCell ⟨gb388, 3, none⟩ (.slice A387_3 ((rd_T63 l0 a2).f1).length c387_3)).setCell ⟨gb388, 4, none⟩ (.slice A387_4 ((rd_T63 l0 a2).f2).length c387_4)).heap[gb386]? = some (.cells #[.int .i64 0, .int .i64 0, .int .i64 0, .slice none 0 0, .slice none 0 0] 63 (0, 0))) := ⟨by refine blk_far ?_ NB386_388.out _; refine blk_far ?_ NB386_388.out _; refine blk_far ?_ NB386_388.out _; refine blk_far ?_ NB386_388.out _; refine blk_far ?_ NB386_388.out _; exact BK386.out⟩
                have n4_ : Aside0 ((((((w13.setCell ⟨gb388, 0, none⟩ (.int .i64 ((rd_T63 l0 a2).f0.f0))).setCell ⟨gb388, 1, none⟩ (.int .i64 ((rd_T63 l0 a2).f0.f1))).setCell ⟨gb388, 2, none⟩ (.int .i64 ((rd_T63 l0 a2).f0.f2))).setCell ⟨gb388, 3, none⟩ (.slice A387_3 ((rd_T63 l0 a2).f1).length c387_3)).setCell ⟨gb388, 4, none⟩ (.slice A387_4 ((rd_T63 l0 a2).f2).length c387_4)).heap[gb388]? = some (.cells #[.int .i64 ((rd_T63 l0 a2).f0.f0), .int .i64 ((rd_T63 l0 a2).f0.f1), .int .i64 ((rd_T63 l0 a2).f0.f2), .slice A387_3 ((rd_T63 l0 a2).f1).length c387_3, .slice A387_4 ((rd_T63 l0 a2).f2).length c387_4] 63 (0, 0))) := ⟨by exact bp5_ BK388.out⟩
                have n5_ : Aside0 (Below w.heap.size w (((((w13.setCell ⟨gb388, 0, none⟩ (.int .i64 ((rd_T63 l0 a2).f0.f0))).setCell ⟨gb388, 1, none⟩ (.int .i64 ((rd_T63 l0 a2).f0.f1))).setCell ⟨gb388, 2, none⟩ (.int .i64 ((rd_T63 l0 a2).f0.f2))).setCell ⟨gb388, 3, none⟩ (.slice A387_3 ((rd_T63 l0 a2).f1).length c387_3)).setCell ⟨gb388, 4, none⟩ (.slice A387_4 ((rd_T63 l0 a2).f2).length c387_4))) := ⟨by repeat ((with_reducible first | exact HB.out | refine below_set ?_ GE388.out))⟩
                (try clear HO_0)
                (try clear HL387_3)
                (try clear HL387_4)
                (try clear BK386)
                (try clear BK388)
                (try clear HB)
                generalize (((((w13.setCell ⟨gb388, 0, none⟩ (.int .i64 ((rd_T63 l0 a2).f0.f0))).setCell ⟨gb388, 1, none⟩ (.int .i64 ((rd_T63 l0 a2).f0.f1))).setCell ⟨gb388, 2, none⟩ (.int .i64 ((rd_T63 l0 a2).f0.f2))).setCell ⟨gb388, 3, none⟩ (.slice A387_3 ((rd_T63 l0 a2).f1).length c387_3)).setCell ⟨gb388, 4, none⟩ (.slice A387_4 ((rd_T63 l0 a2).f2).length c387_4)) = w16 at n0_ n1_ n2_ n3_ n4_ n5_ ⊢
                have HO_0 := n0_
                have HL387_3 := n1_
                have HL387_4 := n2_
                have BK386 := n3_
                have BK388 := n4_
                have HB := n5_
                clear n0_ n1_ n2_ n3_ n4_ n5_
                have n0_ := Aside0.mk (Kd.V_drew HO_0.out)
                have n1_ := Aside0.mk (Kd.V_drew HL387_3.out)
                have n2_ := Aside0.mk (Kd.V_drew HL387_4.out)
                have n3_ := Aside0.mk (blk_drew BK386.out)
                have n4_ := Aside0.mk (blk_drew BK388.out)
                have n5_ := Aside0.mk (below_drew1 HB.out)
                clear HO_0 HL387_3 HL387_4 BK386 BK388 HB; have HO_0 := n0_; have HL387_3 := n1_; have HL387_4 := n2_; have BK386 := n3_; have BK388 := n4_; have HB := n5_; clear n0_ n1_ n2_ n3_ n4_ n5_
                refine start_ (n := 4) (S := fun w' => w'.cell? ⟨gb388, 0, none⟩ = some (.int .i64 ((rd_T63 l0 a2).f0.f0)) ∧ w'.cell? ⟨gb388, 1, none⟩ = some (.int .i64 ((rd_T63 l0 a2).f0.f1)) ∧ w'.cell? ⟨gb388, 2, none⟩ = some (.int .i64 ((rd_T63 l0 a2).f0.f2)) ∧ w'.cell? ⟨gb388, 3, none⟩ = some (.slice A387_3 ((rd_T63 l0 a2).f1).length c387_3) ∧ w'.cell? ⟨gb388, 4, none⟩ = some (.slice A387_4 ((rd_T63 l0 a2).f2).length c387_4)) (ds := []) #[false, false, false, false] (by kernel_rfl) rfl rfl (bh5_ BK388.out) (fun hHeld => ?_)
                generalize w16.drew = w17 at HO_0 HL387_3 HL387_4 BK386 BK388 HB hHeld ⊢
                refine pure_ (i := 1) (N := some 6) (v := ?_) (a' := ?_) (bm 4 0x2) rfl rfl (by kernel_rfl) (fun _ _ _ h => h) (Or.inl ⟨by rfl, ?_⟩) ?_ ?_
                rotate_left
                · intro w'
                  go_simp
                  with_reducible rfl
                rotate_left
                · simp only [Act.put, List.setIfInBounds_toArray, List.set_cons_zero, List.set_cons_succ, i64_w, i32_w]
                  rfl
                refine take_ (i := 0) (N := some 34) (v := ?_) (a' := ?_) (bm 4 0x3) rfl rfl (by kernel_rfl) (fun _ _ _ h => h) (Or.inl ⟨by rfl, ?_⟩) hHeld ?_ ?_
                rotate_left
                · rintro w' ⟨s0, s1, s2, s3, s4⟩
                  go_simp
                  with_reducible rfl
                rotate_left
                · simp only [Act.put, List.setIfInBounds_toArray, List.set_cons_zero, List.set_cons_succ, i64_w, i32_w]
                  rfl
                refine one_ (i := 2) (N := none) (bm 4 0x7) rfl rfl (by kernel_rfl) (by decide) (fun K hK => ?_)
                have hs18 : w17.cell? ⟨gb386, 0, none⟩ = some (.int .i64 0) := (blk_cell BK386.out 0).trans rfl
                have hfs18 := blk_frozen BK386.out 0
                have hns18_1 := NB388_386.out
                have hms18_1 := NB386_388.out
                have hs19 : w17.cell? ⟨gb386, 1, none⟩ = some (.int .i64 0) := (blk_cell BK386.out 1).trans rfl
                have hfs19 := blk_frozen BK386.out 1
                have hns19_1 := NB388_386.out
                have hms19_1 := NB386_388.out
                have hs20 : w17.cell? ⟨gb386, 2, none⟩ = some (.int .i64 0) := (blk_cell BK386.out 2).trans rfl
                have hfs20 := blk_frozen BK386.out 2
                have hns20_1 := NB388_386.out
                have hms20_1 := NB386_388.out
                have hs21 : w17.cell? ⟨gb386, 3, none⟩ = some (.slice none 0 0) := (blk_cell BK386.out 3).trans rfl
                have hfs21 := blk_frozen BK386.out 3
                have hns21_1 := NB388_386.out
                have hms21_1 := NB386_388.out
                have hs22 : w17.cell? ⟨gb386, 4, none⟩ = some (.slice none 0 0) := (blk_cell BK386.out 4).trans rfl
                have hfs22 := blk_frozen BK386.out 4
                have hns22_1 := NB388_386.out
                have hms22_1 := NB386_388.out
                refine skip_ (w1 := ?_) (by rfl) rfl ?_ ?_
                rotate_left
                · go_simp
                  rfl
                refine hK.out _ _ ⟨((cell_far (p := ⟨gb386, _, none⟩) NB388_386.out _).trans (((cell_far (p := ⟨gb386, _, none⟩) NB388_386.out _).trans (((cell_far (p := ⟨gb386, _, none⟩) NB388_386.out _).trans (((cell_far (p := ⟨gb386, _, none⟩) NB388_386.out _).trans (((cell_far (p := ⟨gb386, _, none⟩) NB388_386.out _).trans (hHeld.1)))))))))), ((cell_far (p := ⟨gb386, _, none⟩) NB388_386.out _).trans (((cell_far (p := ⟨gb386, _, none⟩) NB388_386.out _).trans (((cell_far (p := ⟨gb386, _, none⟩) NB388_386.out _).trans (((cell_far (p := ⟨gb386, _, none⟩) NB388_386.out _).trans (((cell_far (p := ⟨gb386, _, none⟩) NB388_386.out _).trans (hHeld.2.1)))))))))), ((cell_far (p := ⟨gb386, _, none⟩) NB388_386.out _).trans (((cell_far (p := ⟨gb386, _, none⟩) NB388_386.out _).trans (((cell_far (p := ⟨gb386, _, none⟩) NB388_386.out _).trans (((cell_far (p := ⟨gb386, _, none⟩) NB388_386.out _).trans (((cell_far (p := ⟨gb386, _, none⟩) NB388_386.out _).trans (hHeld.2.2.1)))))))))), ((cell_far (p := ⟨gb386, _, none⟩) NB388_386.out _).trans (((cell_far (p := ⟨gb386, _, none⟩) NB388_386.out _).trans (((cell_far (p := ⟨gb386, _, none⟩) NB388_386.out _).trans (((cell_far (p := ⟨gb386, _, none⟩) NB388_386.out _).trans (((cell_far (p := ⟨gb386, _, none⟩) NB388_386.out _).trans (hHeld.2.2.2.1)))))))))), ((cell_far (p := ⟨gb386, _, none⟩) NB388_386.out _).trans (((cell_far (p := ⟨gb386, _, none⟩) NB388_386.out _).trans (((cell_far (p := ⟨gb386, _, none⟩) NB388_386.out _).trans (((cell_far (p := ⟨gb386, _, none⟩) NB388_386.out _).trans (((cell_far (p := ⟨gb386, _, none⟩) NB388_386.out _).trans (hHeld.2.2.2.2))))))))))⟩ (fun hHeld => ?_)
                clear hK K
                refine pure_ (i := 3) (N := some 8) (v := ?_) (a' := ?_) (bm 4 0xf) rfl rfl (by kernel_rfl) (fun _ _ _ h => h) (Or.inl ⟨by rfl, ?_⟩) ?_ ?_
                rotate_left
                · intro w'
                  go_simp
                  with_reducible rfl
                rotate_left
                · simp only [Act.put, List.setIfInBounds_toArray, List.set_cons_zero, List.set_cons_succ, i64_w, i32_w]
                  rfl
                refine done_ (by kernel_rfl) ?_
                try go_wp2
                refine bodyPost_ret (results_list (rs := [.tmp 6, .cell 7 63, .tmp 8]) rfl (by simp) (.tmp (.cell gb386 63 #[.int .i64 ((rd_T63 l0 a2).f0.f0), .int .i64 ((rd_T63 l0 a2).f0.f1), .int .i64 ((rd_T63 l0 a2).f0.f2), .slice A387_3 ((rd_T63 l0 a2).f1).length c387_3, .slice A387_4 ((rd_T63 l0 a2).f2).length c387_4] (0, 0) _ rfl (by exact bp5_ BK386.out) Try.underlying63 rfl (by kernel_rfl) (.tmp .nil)))) rfl ?_
                exact ⟨_, _, by rfl, by exact Kd.V_mono (vf5_ (Kd.V_mono HL387_3.out (fun k_ hk => (⟨hk, hk.2.1⟩ : _ ∧ k_ ≠ gb386))) (fun _ hk => hk.2)) (fun _ hk => hk.1.1), by exact Kd.V_mono (vf5_ (Kd.V_mono HL387_4.out (fun k_ hk => (⟨hk, hk.2.1⟩ : _ ∧ k_ ≠ gb386))) (fun _ hk => hk.2)) (fun _ hk => hk.1.1), by repeat ((with_reducible first | exact HB.out | refine below_set ?_ GE386.out))⟩
              · rw [if_neg c12] at H
                have c12b0 : ((((rd_T63 l0 a2).f2).length : Int) == 0) = false := beq_eq_false_iff_ne.mpr c12
                have c12b1 : ((((rd_T63 l0 a2).f2).length : Int) != 0) = true := bne_iff_ne.mpr c12
                have c12b2 : ¬ (((rd_T63 l0 a2).f2) = []) := fun h_ => c12 (by rw [h_]; rfl)
                by_cases c23 : 0 < (((rd_T63 l0 a2).f2).length : Int)
                · rw [if_pos c23] at H
                  have c23b0 : decide (0 < (((rd_T63 l0 a2).f2).length : Int)) = true := decide_eq_true c23
                  have c23b1 : decide (0 < ((rd_T63 l0 a2).f2).length) = true := decide_eq_true (by omega)
                  clear c23
                  by_cases c24 : 1 ≤ (((rd_T63 l0 a2).f2).length : Int)
                  · rw [if_pos c24] at H
                    have c24b0 := eq_true c24
                    have c24b1 : decide (1 ≤ (((rd_T63 l0 a2).f2).length : Int)) = true := decide_eq_true c24
                    clear c24
                    obtain ⟨y390, hy390⟩ : ∃ y_ : List Int, y_ = (((rd_T63 l0 a2).f2).drop 1) := ⟨_, rfl⟩
                    replace H : (some (rd ((rd_T63 l0 a2).f2) 0, (rd_T63 l0 a2).f0.f0, (rd_T63 l0 a2).f0.f1, (rd_T63 l0 a2).f0.f2, (rd_T63 l0 a2).f1, y390, 0)) = some (r1, r2, r3, r4, r5, r6, r7) := by (rw [hy390]; with_reducible exact H)
                    have Ny390 := Aside0.mk hy390
                    clear hy390
                    simp only [Option.some.injEq, Prod.mk.injEq] at H
                    obtain ⟨rfl, rfl, rfl, rfl, rfl, rfl, rfl⟩ := H
                    have p387 : 0 ≤ (a2 : Int) := of_decide_eq_true (by (with_reducible assumption))
                    have q387 : a2 < (l0.length : Int) := of_decide_eq_true (by (with_reducible assumption))
                    obtain ⟨ad387, A387_3, c387_3, A387_4, c387_4, e387, hx387_0, hx387_1, hx387_2, hx387_3, hx387_4, hl387_3, hi387_3, hl387_4, hi387_4⟩ := at_T63 (Kd.V_reads' HO_0.out).2.2 a2 p387 q387
                    cases e387
                    obtain ⟨ce387, hce387, hMe387, hcc387⟩ := Kd.V_get HO_0.out z63 a2 p387 q387
                    obtain ⟨ua387_3, uc387_3, ua387_4, uc387_4, rfl, ul387_3, ge387_3, ul387_4, ge387_4⟩ := k63_openF hMe387
                    have hv387_3 := hcc387 3 _ rfl
                    rw [add_field _ _ 3 (by omega)] at hv387_3
                    replace hv387_3 := Option.some.inj (hv387_3.symm.trans hx387_3)
                    injection hv387_3 with hva_ hvn_ hvc_
                    rw [hva_] at ge387_3
                    rw [hvc_] at ul387_3
                    have HL387_3 := Aside0.mk (show Kd.V (Kd.int .i64) 3 _ w.heap.size _ _ ((rd_T63 l0 a2).f1) from Kd.V_mk ul387_3 ge387_3)
                    clear hva_ hvn_ hvc_ ge387_3 ul387_3
                    have hv387_4 := hcc387 4 _ rfl
                    rw [add_field _ _ 4 (by omega)] at hv387_4
                    replace hv387_4 := Option.some.inj (hv387_4.symm.trans hx387_4)
                    injection hv387_4 with hva_ hvn_ hvc_
                    rw [hva_] at ge387_4
                    rw [hvc_] at ul387_4
                    have HL387_4 := Aside0.mk (show Kd.V (Kd.int .i64) 3 _ w.heap.size _ _ ((rd_T63 l0 a2).f2) from Kd.V_mk ul387_4 ge387_4)
                    clear hva_ hvn_ hvc_ ge387_4 ul387_4
                    clear hcc387 hce387
                    have HR387_3 := Aside0.mk hi387_3
                    have HC387_3 := Aside0.mk hl387_3
                    clear hi387_3 hl387_3
                    have HR387_4 := Aside0.mk hi387_4
                    have HC387_4 := Aside0.mk hl387_4
                    clear hi387_4 hl387_4
                    replace p387 := eq_true p387
                    replace q387 := eq_true q387
                    try go_wp2_with (first | ((with_reducible refine gate_dst (N := 9) rfl ?_); (try (refine gate_guard (by rfl) ?_; dsimp only)); refine box_event ?hg (N := 9) ?hd (cs := #[.int .i64 0, .int .i64 0, .int .i64 0, .slice none 0 0, .slice none 0 0]) (t := 63) ?hr ?_; (case hd => rfl); (case hg => rfl); (case hr => (go_simp; done)); intro gb388 hg w25 hbox hb; have n0_ := Aside0.mk (Kd.V_below (Kd.V_elderB HO_0.out gb388 (Nat.le_of_eq hg.symm)) hb); have n1_ := Aside0.mk (Kd.V_below (Kd.V_elderB HL387_3.out gb388 (Nat.le_of_eq hg.symm)) hb); have n2_ := Aside0.mk (Kd.V_below (Kd.V_elderB HL387_4.out gb388 (Nat.le_of_eq hg.symm)) hb); have n4_ := Aside0.mk (Kd.C_below (by (exact (Kd.V_reads' HL387_3.out).2.2)) hb); have n5_ := Aside0.mk (Kd.C_below (by (exact (Kd.V_reads' HL387_4.out).2.2)) hb); have n7_ := Aside0.mk (hbox); have n8_ := Aside0.mk ((by rw [hg]; exact (below_size HB.out) : w.heap.size ≤ gb388)); have n9_ := Aside0.mk ((by rw [hg]; exact (below_size HB.out) : w.heap.size ≤ gb388)); have n10_ := Aside0.mk ((by rw [hg]; exact Nat.ne_of_lt (blk_lt BK386.out) : gb386 ≠ gb388)); have n11_ := Aside0.mk ((by rw [hg]; exact Nat.ne_of_gt (blk_lt BK386.out) : gb388 ≠ gb386)); clear HO_0 HL387_3 HL387_4 HR387_3 HR387_4; have HO_0 := n0_; have HL387_3 := n1_; have HL387_4 := n2_; have HR387_3 := n4_; have HR387_4 := n5_; have BK388 := n7_; have GW388 := n8_; have GE388 := n9_; have NB386_388 := n10_; have NB388_386 := n11_; clear n0_ n1_ n2_ n4_ n5_ n7_ n8_ n9_ n10_ n11_; replace BK386 := kb_ BK386 hb; replace HB := hb_ HB hb; clear hb hbox hg; have hnb26 := NB388_386.out; have hnc26 := NB386_388.out; obtain ⟨_, _, _, _, _, _, _, _, _, _⟩ := bk5_ BK388.out) | ((with_reducible refine gate_store (t := 63) (p := 9) rfl ?_); refine store_event (t := 63) (p := 9) (v := ?vo_w28) (w1 := (((((w25.setCell ⟨gb388, 0, none⟩ (.int .i64 ((rd_T63 l0 a2).f0.f0))).setCell ⟨gb388, 1, none⟩ (.int .i64 ((rd_T63 l0 a2).f0.f1))).setCell ⟨gb388, 2, none⟩ (.int .i64 ((rd_T63 l0 a2).f0.f2))).setCell ⟨gb388, 3, none⟩ (.slice A387_3 ((rd_T63 l0 a2).f1).length c387_3)).setCell ⟨gb388, 4, none⟩ (.slice A387_4 ((rd_T63 l0 a2).f2).length c387_4))) ?hg ?ho ?hn ?hr ?_; (case ho => rfl); (case hg => rfl); (case hn => rfl); (case hr => (go_simp; done)); intro w28 hw; have n0_ : Aside0 (Kd.V k63 63 w28 w.heap.size (fun k_ => (P0_ k_ ∨ w.heap.size ≤ k_) ∧ k_ ≠ gb386 ∧ k_ ≠ gb388) (.slice (some ad387) l0.length c0) l0) := ⟨(by rw [hw]; exact (by exact Kd.V_mono (vf5_ (Kd.V_mono HO_0.out (fun k_ hk => (⟨hk, hk.2⟩ : _ ∧ k_ ≠ gb388))) (fun _ hk => hk.2)) (fun _ hk => ⟨hk.1.1.1, ⟨hk.1.1.2, hk.1.2⟩⟩)))⟩; have n1_ : Aside0 (Kd.V (Kd.int .i64) 3 w28 w.heap.size (fun k_ => (P0_ k_ ∨ w.heap.size ≤ k_) ∧ k_ ≠ gb386 ∧ k_ ≠ gb388) (.slice A387_3 ((rd_T63 l0 a2).f1).length c387_3) ((rd_T63 l0 a2).f1)) := ⟨(by rw [hw]; exact (by exact Kd.V_mono (vf5_ (Kd.V_mono HL387_3.out (fun k_ hk => (⟨hk, hk.2⟩ : _ ∧ k_ ≠ gb388))) (fun _ hk => hk.2)) (fun _ hk => ⟨hk.1.1.1, ⟨hk.1.1.2, hk.1.2⟩⟩)))⟩; have n2_ : Aside0 (Kd.V (Kd.int .i64) 3 w28 w.heap.size (fun k_ => (P0_ k_ ∨ w.heap.size ≤ k_) ∧ k_ ≠ gb386 ∧ k_ ≠ gb388) (.slice A387_4 ((rd_T63 l0 a2).f2).length c387_4) ((rd_T63 l0 a2).f2)) := ⟨(by rw [hw]; exact (by exact Kd.V_mono (vf5_ (Kd.V_mono HL387_4.out (fun k_ hk => (⟨hk, hk.2⟩ : _ ∧ k_ ≠ gb388))) (fun _ hk => hk.2)) (fun _ hk => ⟨hk.1.1.1, ⟨hk.1.1.2, hk.1.2⟩⟩)))⟩; have n3_ : Aside0 (w28.heap[gb386]? = some (.cells #[.int .i64 0, .int .i64 0, .int .i64 0, .slice none 0 0, .slice none 0 0] 63 (0, 0))) := ⟨(by rw [hw]; exact (by refine blk_far ?_ NB386_388.out _; refine blk_far ?_ NB386_388.out _; refine blk_far ?_ NB386_388.out _; refine blk_far ?_ NB386_388.out _; refine blk_far ?_ NB386_388.out _; exact BK386.out))⟩; have n4_ : Aside0 (w28.heap[gb388]? = some (.cells #[.int .i64 ((rd_T63 l0 a2).f0.f0), .int .i64 ((rd_T63 l0 a2).f0.f1), .int .i64 ((rd_T63 l0 a2).f0.f2), .slice A387_3 ((rd_T63 l0 a2).f1).length c387_3, .slice A387_4 ((rd_T63 l0 a2).f2).length c387_4] 63 (0, 0))) := ⟨(by rw [hw]; exact (by exact bp5_ BK388.out))⟩; have n5_ : Aside0 (Below w.heap.size w w28) := ⟨(by rw [hw]; exact (by repeat ((with_reducible first | exact HB.out | refine below_set ?_ GE388.out))))⟩; clear hw; clear HO_0; clear HL387_3; clear HL387_4; clear BK386; clear BK388; clear HB; have HO_0 := n0_; have HL387_3 := n1_; have HL387_4 := n2_; have BK386 := n3_; have BK388 := n4_; have HB := n5_; clear n0_ n1_ n2_ n3_ n4_ n5_; obtain ⟨_, _, _, _, _, _, _, _, _, _⟩ := bk5_ BK388.out; have p389 : 0 ≤ (0 : Int) := (by omega); have q389 : 0 < (((rd_T63 l0 a2).f2).length : Int) := of_decide_eq_true (by (with_reducible assumption)); obtain ⟨ad389, e389, hx389_0⟩ := Kd.at_int (by (exact (Kd.V_reads' HL387_4.out).2.2)) 0 p389 q389; cases e389; have qi389 : (0 < ((rd_T63 l0 a2).f2).length) = True := eq_true (by omega); (try rw [show ((0 : Int)).toNat = 0 from rfl] at hx389_0); (try rw [Addr.add_zero'] at hx389_0); replace p389 := eq_true p389; replace q389 := eq_true q389; have q30 : (1 : Int) ≤ ((((rd_T63 l0 a2).f2).length : Int) : Int) := of_decide_eq_true (by (with_reducible assumption)); obtain ⟨i030, hi030, _, hsz30, _⟩ := info_parts info3; have hroom30 : ((rd_T63 l0 a2).f2).length ≤ c387_4 := HC387_4.out; have hC30 : Kd.F (Kd.int .i64) _ _ (some ad389) ((rd_T63 l0 a2).f2).length ((rd_T63 l0 a2).f2) := (Kd.V_at (base := w.heap.size) HL387_4.out).2.2; have hcut30 := cut_from (P := Try.prog) 22 3 .i64 Try.underlying22 hi030 1 hsz30 (some ad389) ((rd_T63 l0 a2).f2).length c387_4 1 (by omega) q30; have hr30 := Kd.F_cut (m := (1 : Int).toNat) (c := c387_4) hC30 (by omega) hroom30; obtain ⟨A30, hA30⟩ : ∃ A1, A1 = (if c387_4 = (1 : Int).toNat then (some ad389) else ((some ad389) : Option Addr).map (·.add ((1 : Int).toNat * 1))) := ⟨_, rfl⟩; obtain ⟨c30, hc30⟩ : ∃ c1, c1 = c387_4 - (1 : Int).toNat := ⟨_, rfl⟩; have hy30 : y390.length = ((rd_T63 l0 a2).f2).length - (1 : Int).toNat := (by rw [Ny390.out, List.length_drop] <;> omega); rw [show ((rd_T63 l0 a2).f2).drop (1 : Int).toNat = y390 from Ny390.out.symm] at hr30; replace hr30 : Kd.F (Kd.int .i64) _ _ A30 y390.length y390 := (by rw [hA30]; exact hr30); rw [← hy30, ← hA30, ← hc30] at hcut30; have HO394 := Aside0.mk (show Kd.V (Kd.int .i64) 3 _ w.heap.size _ (.slice A30 y390.length c30) y390 from Kd.V_mk (by rw [hy30, hc30]; exact Nat.sub_le_sub_right hroom30 _) hr30); have HC394 := Aside0.mk (show y390.length ≤ c30 from by rw [hy30, hc30]; exact Nat.sub_le_sub_right hroom30 _); have KC30 := Aside0.mk hc30; clear hr30 hC30 hroom30 hi030 hsz30 hc30; have KY30 := Aside0.mk hy30; have KA30 := Aside0.mk hA30; clear hy30 hA30; replace q30 := eq_true q30))
                    have n0_ : Aside0 (Kd.V k63 63 (w28.setCell ⟨gb388, 4, none⟩ (.slice A30 y390.length c30)) w.heap.size (fun k_ => (P0_ k_ ∨ w.heap.size ≤ k_) ∧ k_ ≠ gb386 ∧ k_ ≠ gb388) (.slice (some ad387) l0.length c0) l0) := ⟨by exact Kd.V_mono (Kd.V_far (p := ⟨gb388, 4, none⟩) (Kd.V_mono HO_0.out (fun k_ hk => (⟨hk, hk.2.2⟩ : _ ∧ k_ ≠ gb388))) (fun _ hk => hk.2) (.slice A30 y390.length c30)) (fun _ hk => ⟨hk.1.1, ⟨hk.1.2.1, hk.1.2.2⟩⟩)⟩
                    have n1_ : Aside0 (Kd.V (Kd.int .i64) 3 (w28.setCell ⟨gb388, 4, none⟩ (.slice A30 y390.length c30)) w.heap.size (fun k_ => (P0_ k_ ∨ w.heap.size ≤ k_) ∧ k_ ≠ gb386 ∧ k_ ≠ gb388) (.slice A387_3 ((rd_T63 l0 a2).f1).length c387_3) ((rd_T63 l0 a2).f1)) := ⟨by exact Kd.V_mono (Kd.V_far (p := ⟨gb388, 4, none⟩) (Kd.V_mono HL387_3.out (fun k_ hk => (⟨hk, hk.2.2⟩ : _ ∧ k_ ≠ gb388))) (fun _ hk => hk.2) (.slice A30 y390.length c30)) (fun _ hk => ⟨hk.1.1, ⟨hk.1.2.1, hk.1.2.2⟩⟩)⟩
                    have n2_ : Aside0 (Kd.V (Kd.int .i64) 3 (w28.setCell ⟨gb388, 4, none⟩ (.slice A30 y390.length c30)) w.heap.size (fun k_ => (P0_ k_ ∨ w.heap.size ≤ k_) ∧ k_ ≠ gb386 ∧ k_ ≠ gb388) (.slice (some ad389) ((rd_T63 l0 a2).f2).length c387_4) ((rd_T63 l0 a2).f2)) := ⟨by exact Kd.V_mono (Kd.V_far (p := ⟨gb388, 4, none⟩) (Kd.V_mono HL387_4.out (fun k_ hk => (⟨hk, hk.2.2⟩ : _ ∧ k_ ≠ gb388))) (fun _ hk => hk.2) (.slice A30 y390.length c30)) (fun _ hk => ⟨hk.1.1, ⟨hk.1.2.1, hk.1.2.2⟩⟩)⟩
                    have n3_ : Aside0 (Kd.V (Kd.int .i64) 3 (w28.setCell ⟨gb388, 4, none⟩ (.slice A30 y390.length c30)) w.heap.size (fun k_ => (P0_ k_ ∨ w.heap.size ≤ k_) ∧ k_ ≠ gb386 ∧ k_ ≠ gb388) (.slice A30 y390.length c30) y390) := ⟨by exact Kd.V_mono (Kd.V_far (p := ⟨gb388, 4, none⟩) (Kd.V_mono HO394.out (fun k_ hk => (⟨hk, hk.2.2⟩ : _ ∧ k_ ≠ gb388))) (fun _ hk => hk.2) (.slice A30 y390.length c30)) (fun _ hk => ⟨hk.1.1, ⟨hk.1.2.1, hk.1.2.2⟩⟩)⟩
                    have n4_ : Aside0 ((w28.setCell ⟨gb388, 4, none⟩ (.slice A30 y390.length c30)).heap[gb386]? = some (.cells #[.int .i64 0, .int .i64 0, .int .i64 0, .slice none 0 0, .slice none 0 0] 63 (0, 0))) := ⟨by refine blk_far ?_ NB386_388.out _; exact BK386.out⟩
                    have n5_ : Aside0 ((w28.setCell ⟨gb388, 4, none⟩ (.slice A30 y390.length c30)).heap[gb388]? = some (.cells #[.int .i64 ((rd_T63 l0 a2).f0.f0), .int .i64 ((rd_T63 l0 a2).f0.f1), .int .i64 ((rd_T63 l0 a2).f0.f2), .slice A387_3 ((rd_T63 l0 a2).f1).length c387_3, .slice A30 y390.length c30] 63 (0, 0))) := ⟨by refine blk_put (cs := #[.int .i64 ((rd_T63 l0 a2).f0.f0), .int .i64 ((rd_T63 l0 a2).f0.f1), .int .i64 ((rd_T63 l0 a2).f0.f2), .slice A387_3 ((rd_T63 l0 a2).f1).length c387_3, .slice (some ad389) ((rd_T63 l0 a2).f2).length c387_4]) ?_ 4 _ rfl; exact BK388.out⟩
                    have n6_ : Aside0 (Below w.heap.size w (w28.setCell ⟨gb388, 4, none⟩ (.slice A30 y390.length c30))) := ⟨by repeat ((with_reducible first | exact HB.out | refine below_set ?_ GE388.out))⟩
                    (try clear HO_0)
                    (try clear HL387_3)
                    (try clear HL387_4)
                    (try clear HO394)
                    (try clear BK386)
                    (try clear BK388)
                    (try clear HB)
                    generalize (w28.setCell ⟨gb388, 4, none⟩ (.slice A30 y390.length c30)) = w31 at n0_ n1_ n2_ n3_ n4_ n5_ n6_ ⊢
                    have HO_0 := n0_
                    have HL387_3 := n1_
                    have HL387_4 := n2_
                    have HO394 := n3_
                    have BK386 := n4_
                    have BK388 := n5_
                    have HB := n6_
                    clear n0_ n1_ n2_ n3_ n4_ n5_ n6_
                    have n0_ := Aside0.mk (Kd.V_drew HO_0.out)
                    have n1_ := Aside0.mk (Kd.V_drew HL387_3.out)
                    have n2_ := Aside0.mk (Kd.V_drew HL387_4.out)
                    have n3_ := Aside0.mk (Kd.V_drew HO394.out)
                    have n4_ := Aside0.mk (blk_drew BK386.out)
                    have n5_ := Aside0.mk (blk_drew BK388.out)
                    have n6_ := Aside0.mk (below_drew1 HB.out)
                    clear HO_0 HL387_3 HL387_4 HO394 BK386 BK388 HB; have HO_0 := n0_; have HL387_3 := n1_; have HL387_4 := n2_; have HO394 := n3_; have BK386 := n4_; have BK388 := n5_; have HB := n6_; clear n0_ n1_ n2_ n3_ n4_ n5_ n6_
                    refine start_ (n := 5) (S := fun w' => w'.cell? ⟨gb388, 0, none⟩ = some (.int .i64 ((rd_T63 l0 a2).f0.f0)) ∧ w'.cell? ⟨gb388, 1, none⟩ = some (.int .i64 ((rd_T63 l0 a2).f0.f1)) ∧ w'.cell? ⟨gb388, 2, none⟩ = some (.int .i64 ((rd_T63 l0 a2).f0.f2)) ∧ w'.cell? ⟨gb388, 3, none⟩ = some (.slice A387_3 ((rd_T63 l0 a2).f1).length c387_3) ∧ w'.cell? ⟨gb388, 4, none⟩ = some (.slice A30 y390.length c30)) (ds := []) #[false, false, false, false, false] (by kernel_rfl) rfl rfl (bh5_ BK388.out) (fun hHeld => ?_)
                    generalize w31.drew = w32 at HO_0 HL387_3 HL387_4 HO394 BK386 BK388 HB hHeld ⊢
                    refine pure_ (i := 0) (N := some 43) (v := ?_) (a' := ?_) (bm 5 0x1) rfl rfl (by kernel_rfl) (fun _ _ _ h => h) (Or.inl ⟨by rfl, ?_⟩) ?_ ?_
                    rotate_left
                    · intro w'
                      go_simp
                      with_reducible rfl
                    rotate_left
                    · simp only [Act.put, List.setIfInBounds_toArray, List.set_cons_zero, List.set_cons_succ, i64_w, i32_w]
                      rfl
                    refine pure_ (i := 2) (N := some 6) (v := ?_) (a' := ?_) (bm 5 0x5) rfl rfl (by kernel_rfl) (fun _ _ _ h => h) (Or.inl ⟨by rfl, ?_⟩) ?_ ?_
                    rotate_left
                    · intro w'
                      go_simp
                      with_reducible rfl
                    rotate_left
                    · simp only [Act.put, List.setIfInBounds_toArray, List.set_cons_zero, List.set_cons_succ, i64_w, i32_w]
                      rfl
                    refine take_ (i := 1) (N := some 44) (v := ?_) (a' := ?_) (bm 5 0x7) rfl rfl (by kernel_rfl) (fun _ _ _ h => h) (Or.inl ⟨by rfl, ?_⟩) hHeld ?_ ?_
                    rotate_left
                    · rintro w' ⟨s0, s1, s2, s3, s4⟩
                      go_simp
                      with_reducible rfl
                    rotate_left
                    · simp only [Act.put, List.setIfInBounds_toArray, List.set_cons_zero, List.set_cons_succ, i64_w, i32_w]
                      rfl
                    refine one_ (i := 3) (N := none) (bm 5 0xf) rfl rfl (by kernel_rfl) (by decide) (fun K hK => ?_)
                    have hs33 : w32.cell? ⟨gb386, 0, none⟩ = some (.int .i64 0) := (blk_cell BK386.out 0).trans rfl
                    have hfs33 := blk_frozen BK386.out 0
                    have hns33_1 := NB388_386.out
                    have hms33_1 := NB386_388.out
                    have hs34 : w32.cell? ⟨gb386, 1, none⟩ = some (.int .i64 0) := (blk_cell BK386.out 1).trans rfl
                    have hfs34 := blk_frozen BK386.out 1
                    have hns34_1 := NB388_386.out
                    have hms34_1 := NB386_388.out
                    have hs35 : w32.cell? ⟨gb386, 2, none⟩ = some (.int .i64 0) := (blk_cell BK386.out 2).trans rfl
                    have hfs35 := blk_frozen BK386.out 2
                    have hns35_1 := NB388_386.out
                    have hms35_1 := NB386_388.out
                    have hs36 : w32.cell? ⟨gb386, 3, none⟩ = some (.slice none 0 0) := (blk_cell BK386.out 3).trans rfl
                    have hfs36 := blk_frozen BK386.out 3
                    have hns36_1 := NB388_386.out
                    have hms36_1 := NB386_388.out
                    have hs37 : w32.cell? ⟨gb386, 4, none⟩ = some (.slice none 0 0) := (blk_cell BK386.out 4).trans rfl
                    have hfs37 := blk_frozen BK386.out 4
                    have hns37_1 := NB388_386.out
                    have hms37_1 := NB386_388.out
                    refine skip_ (w1 := ?_) (by rfl) rfl ?_ ?_
                    rotate_left
                    · go_simp
                      rfl
                    refine hK.out _ _ ⟨((cell_far (p := ⟨gb386, _, none⟩) NB388_386.out _).trans (((cell_far (p := ⟨gb386, _, none⟩) NB388_386.out _).trans (((cell_far (p := ⟨gb386, _, none⟩) NB388_386.out _).trans (((cell_far (p := ⟨gb386, _, none⟩) NB388_386.out _).trans (((cell_far (p := ⟨gb386, _, none⟩) NB388_386.out _).trans (hHeld.1)))))))))), ((cell_far (p := ⟨gb386, _, none⟩) NB388_386.out _).trans (((cell_far (p := ⟨gb386, _, none⟩) NB388_386.out _).trans (((cell_far (p := ⟨gb386, _, none⟩) NB388_386.out _).trans (((cell_far (p := ⟨gb386, _, none⟩) NB388_386.out _).trans (((cell_far (p := ⟨gb386, _, none⟩) NB388_386.out _).trans (hHeld.2.1)))))))))), ((cell_far (p := ⟨gb386, _, none⟩) NB388_386.out _).trans (((cell_far (p := ⟨gb386, _, none⟩) NB388_386.out _).trans (((cell_far (p := ⟨gb386, _, none⟩) NB388_386.out _).trans (((cell_far (p := ⟨gb386, _, none⟩) NB388_386.out _).trans (((cell_far (p := ⟨gb386, _, none⟩) NB388_386.out _).trans (hHeld.2.2.1)))))))))), ((cell_far (p := ⟨gb386, _, none⟩) NB388_386.out _).trans (((cell_far (p := ⟨gb386, _, none⟩) NB388_386.out _).trans (((cell_far (p := ⟨gb386, _, none⟩) NB388_386.out _).trans (((cell_far (p := ⟨gb386, _, none⟩) NB388_386.out _).trans (((cell_far (p := ⟨gb386, _, none⟩) NB388_386.out _).trans (hHeld.2.2.2.1)))))))))), ((cell_far (p := ⟨gb386, _, none⟩) NB388_386.out _).trans (((cell_far (p := ⟨gb386, _, none⟩) NB388_386.out _).trans (((cell_far (p := ⟨gb386, _, none⟩) NB388_386.out _).trans (((cell_far (p := ⟨gb386, _, none⟩) NB388_386.out _).trans (((cell_far (p := ⟨gb386, _, none⟩) NB388_386.out _).trans (hHeld.2.2.2.2))))))))))⟩ (fun hHeld => ?_)
                    clear hK K
                    refine pure_ (i := 4) (N := some 8) (v := ?_) (a' := ?_) (bm 5 0x1f) rfl rfl (by kernel_rfl) (fun _ _ _ h => h) (Or.inl ⟨by rfl, ?_⟩) ?_ ?_
                    rotate_left
                    · intro w'
                      go_simp
                      with_reducible rfl
                    rotate_left
                    · simp only [Act.put, List.setIfInBounds_toArray, List.set_cons_zero, List.set_cons_succ, i64_w, i32_w]
                      rfl
                    refine done_ (by kernel_rfl) ?_
                    try go_wp2
                    refine bodyPost_ret (results_list (rs := [.tmp 6, .cell 7 63, .tmp 8]) rfl (by simp) (.tmp (.cell gb386 63 #[.int .i64 ((rd_T63 l0 a2).f0.f0), .int .i64 ((rd_T63 l0 a2).f0.f1), .int .i64 ((rd_T63 l0 a2).f0.f2), .slice A387_3 ((rd_T63 l0 a2).f1).length c387_3, .slice A30 y390.length c30] (0, 0) _ rfl (by exact bp5_ BK386.out) Try.underlying63 rfl (by kernel_rfl) (.tmp .nil)))) rfl ?_
                    exact ⟨_, _, by rfl, by exact Kd.V_mono (vf5_ (Kd.V_mono HL387_3.out (fun k_ hk => (⟨hk, hk.2.1⟩ : _ ∧ k_ ≠ gb386))) (fun _ hk => hk.2)) (fun _ hk => hk.1.1), by exact Kd.V_mono (vf5_ (Kd.V_mono HO394.out (fun k_ hk => (⟨hk, hk.2.1⟩ : _ ∧ k_ ≠ gb386))) (fun _ hk => hk.2)) (fun _ hk => hk.1.1), by repeat ((with_reducible first | exact HB.out | refine below_set ?_ GE386.out))⟩
                  · rw [if_neg c24] at H
                    exact absurd H (by simp)
                · rw [if_neg c23] at H
                  exact absurd H (by simp)
            · rw [if_neg c11] at H
              have c11b0 : (((rd_T63 l0 a2).f0.f1) == a1) = false := beq_eq_false_iff_ne.mpr c11
              have c11b1 : (((rd_T63 l0 a2).f0.f1) != a1) = true := bne_iff_ne.mpr c11
              simp only [Option.some.injEq, Prod.mk.injEq] at H
              obtain ⟨rfl, rfl, rfl, rfl, rfl, rfl, rfl⟩ := H
              have p387 : 0 ≤ (a2 : Int) := of_decide_eq_true (by (with_reducible assumption))
              have q387 : a2 < (l0.length : Int) := of_decide_eq_true (by (with_reducible assumption))
              obtain ⟨ad387, A387_3, c387_3, A387_4, c387_4, e387, hx387_0, hx387_1, hx387_2, hx387_3, hx387_4, hl387_3, hi387_3, hl387_4, hi387_4⟩ := at_T63 (Kd.V_reads' HO_0.out).2.2 a2 p387 q387
              cases e387
              obtain ⟨ce387, hce387, hMe387, hcc387⟩ := Kd.V_get HO_0.out z63 a2 p387 q387
              obtain ⟨ua387_3, uc387_3, ua387_4, uc387_4, rfl, ul387_3, ge387_3, ul387_4, ge387_4⟩ := k63_openF hMe387
              have hv387_3 := hcc387 3 _ rfl
              rw [add_field _ _ 3 (by omega)] at hv387_3
              replace hv387_3 := Option.some.inj (hv387_3.symm.trans hx387_3)
              injection hv387_3 with hva_ hvn_ hvc_
              rw [hva_] at ge387_3
              rw [hvc_] at ul387_3
              have HL387_3 := Aside0.mk (show Kd.V (Kd.int .i64) 3 _ w.heap.size _ _ ((rd_T63 l0 a2).f1) from Kd.V_mk ul387_3 ge387_3)
              clear hva_ hvn_ hvc_ ge387_3 ul387_3
              have hv387_4 := hcc387 4 _ rfl
              rw [add_field _ _ 4 (by omega)] at hv387_4
              replace hv387_4 := Option.some.inj (hv387_4.symm.trans hx387_4)
              injection hv387_4 with hva_ hvn_ hvc_
              rw [hva_] at ge387_4
              rw [hvc_] at ul387_4
              have HL387_4 := Aside0.mk (show Kd.V (Kd.int .i64) 3 _ w.heap.size _ _ ((rd_T63 l0 a2).f2) from Kd.V_mk ul387_4 ge387_4)
              clear hva_ hvn_ hvc_ ge387_4 ul387_4
              clear hcc387 hce387
              have HR387_3 := Aside0.mk hi387_3
              have HC387_3 := Aside0.mk hl387_3
              clear hi387_3 hl387_3
              have HR387_4 := Aside0.mk hi387_4
              have HC387_4 := Aside0.mk hl387_4
              clear hi387_4 hl387_4
              replace p387 := eq_true p387
              replace q387 := eq_true q387
              try go_wp2_with (((with_reducible refine gate_dst (N := 9) rfl ?_); (try (refine gate_guard (by rfl) ?_; dsimp only)); refine box_event ?hg (N := 9) ?hd (cs := #[.int .i64 0, .int .i64 0, .int .i64 0, .slice none 0 0, .slice none 0 0]) (t := 63) ?hr ?_; (case hd => rfl); (case hg => rfl); (case hr => (go_simp; done)); intro gb388 hg w38 hbox hb; have n0_ := Aside0.mk (Kd.V_below (Kd.V_elderB HO_0.out gb388 (Nat.le_of_eq hg.symm)) hb); have n1_ := Aside0.mk (Kd.V_below (Kd.V_elderB HL387_3.out gb388 (Nat.le_of_eq hg.symm)) hb); have n2_ := Aside0.mk (Kd.V_below (Kd.V_elderB HL387_4.out gb388 (Nat.le_of_eq hg.symm)) hb); have n4_ := Aside0.mk (Kd.C_below (by (exact (Kd.V_reads' HL387_3.out).2.2)) hb); have n5_ := Aside0.mk (Kd.C_below (by (exact (Kd.V_reads' HL387_4.out).2.2)) hb); have n7_ := Aside0.mk (hbox); have n8_ := Aside0.mk ((by rw [hg]; exact (below_size HB.out) : w.heap.size ≤ gb388)); have n9_ := Aside0.mk ((by rw [hg]; exact (below_size HB.out) : w.heap.size ≤ gb388)); have n10_ := Aside0.mk ((by rw [hg]; exact Nat.ne_of_lt (blk_lt BK386.out) : gb386 ≠ gb388)); have n11_ := Aside0.mk ((by rw [hg]; exact Nat.ne_of_gt (blk_lt BK386.out) : gb388 ≠ gb386)); clear HO_0 HL387_3 HL387_4 HR387_3 HR387_4; have HO_0 := n0_; have HL387_3 := n1_; have HL387_4 := n2_; have HR387_3 := n4_; have HR387_4 := n5_; have BK388 := n7_; have GW388 := n8_; have GE388 := n9_; have NB386_388 := n10_; have NB388_386 := n11_; clear n0_ n1_ n2_ n4_ n5_ n7_ n8_ n9_ n10_ n11_; replace BK386 := kb_ BK386 hb; replace HB := hb_ HB hb; clear hb hbox hg; have hnb39 := NB388_386.out; have hnc39 := NB386_388.out; obtain ⟨_, _, _, _, _, _, _, _, _, _⟩ := bk5_ BK388.out))
              have n0_ : Aside0 (Kd.V k63 63 (((((w38.setCell ⟨gb388, 0, none⟩ (.int .i64 ((rd_T63 l0 a2).f0.f0))).setCell ⟨gb388, 1, none⟩ (.int .i64 ((rd_T63 l0 a2).f0.f1))).setCell ⟨gb388, 2, none⟩ (.int .i64 ((rd_T63 l0 a2).f0.f2))).setCell ⟨gb388, 3, none⟩ (.slice A387_3 ((rd_T63 l0 a2).f1).length c387_3)).setCell ⟨gb388, 4, none⟩ (.slice A387_4 ((rd_T63 l0 a2).f2).length c387_4)) w.heap.size (fun k_ => (P0_ k_ ∨ w.heap.size ≤ k_) ∧ k_ ≠ gb386 ∧ k_ ≠ gb388) (.slice (some ad387) l0.length c0) l0) := ⟨by exact Kd.V_mono (vf5_ (Kd.V_mono HO_0.out (fun k_ hk => (⟨hk, hk.2⟩ : _ ∧ k_ ≠ gb388))) (fun _ hk => hk.2)) (fun _ hk => ⟨hk.1.1.1, ⟨hk.1.1.2, hk.1.2⟩⟩)⟩
              have n1_ : Aside0 (Kd.V (Kd.int .i64) 3 (((((w38.setCell ⟨gb388, 0, none⟩ (.int .i64 ((rd_T63 l0 a2).f0.f0))).setCell ⟨gb388, 1, none⟩ (.int .i64 ((rd_T63 l0 a2).f0.f1))).setCell ⟨gb388, 2, none⟩ (.int .i64 ((rd_T63 l0 a2).f0.f2))).setCell ⟨gb388, 3, none⟩ (.slice A387_3 ((rd_T63 l0 a2).f1).length c387_3)).setCell ⟨gb388, 4, none⟩ (.slice A387_4 ((rd_T63 l0 a2).f2).length c387_4)) w.heap.size (fun k_ => (P0_ k_ ∨ w.heap.size ≤ k_) ∧ k_ ≠ gb386 ∧ k_ ≠ gb388) (.slice A387_3 ((rd_T63 l0 a2).f1).length c387_3) ((rd_T63 l0 a2).f1)) := ⟨by exact Kd.V_mono (vf5_ (Kd.V_mono HL387_3.out (fun k_ hk => (⟨hk, hk.2⟩ : _ ∧ k_ ≠ gb388))) (fun _ hk => hk.2)) (fun _ hk => ⟨hk.1.1.1, ⟨hk.1.1.2, hk.1.2⟩⟩)⟩
              have n2_ : Aside0 (Kd.V (Kd.int .i64) 3 (((((w38.setCell ⟨gb388, 0, none⟩ (.int .i64 ((rd_T63 l0 a2).f0.f0))).setCell ⟨gb388, 1, none⟩ (.int .i64 ((rd_T63 l0 a2).f0.f1))).setCell ⟨gb388, 2, none⟩ (.int .i64 ((rd_T63 l0 a2).f0.f2))).setCell ⟨gb388, 3, none⟩ (.slice A387_3 ((rd_T63 l0 a2).f1).length c387_3)).setCell ⟨gb388, 4, none⟩ (.slice A387_4 ((rd_T63 l0 a2).f2).length c387_4)) w.heap.size (fun k_ => (P0_ k_ ∨ w.heap.size ≤ k_) ∧ k_ ≠ gb386 ∧ k_ ≠ gb388) (.slice A387_4 ((rd_T63 l0 a2).f2).length c387_4) ((rd_T63 l0 a2).f2)) := ⟨by exact Kd.V_mono (vf5_ (Kd.V_mono HL387_4.out (fun k_ hk => (⟨hk, hk.2⟩ : _ ∧ k_ ≠ gb388))) (fun _ hk => hk.2)) (fun _ hk => ⟨hk.1.1.1, ⟨hk.1.1.2, hk.1.2⟩⟩)⟩
              have n3_ : Aside0 ((((((w38.setCell ⟨gb388, 0, none⟩ (.int .i64 ((rd_T63 l0 a2).f0.f0))).setCell ⟨gb388, 1, none⟩ (.int .i64 ((rd_T63 l0 a2).f0.f1))).setCell ⟨gb388, 2, none⟩ (.int .i64 ((rd_T63 l0 a2).f0.f2))).setCell ⟨gb388, 3, none⟩ (.slice A387_3 ((rd_T63 l0 a2).f1).length c387_3)).setCell ⟨gb388, 4, none⟩ (.slice A387_4 ((rd_T63 l0 a2).f2).length c387_4)).heap[gb386]? = some (.cells #[.int .i64 0, .int .i64 0, .int .i64 0, .slice none 0 0, .slice none 0 0] 63 (0, 0))) := ⟨by refine blk_far ?_ NB386_388.out _; refine blk_far ?_ NB386_388.out _; refine blk_far ?_ NB386_388.out _; refine blk_far ?_ NB386_388.out _; refine blk_far ?_ NB386_388.out _; exact BK386.out⟩
              have n4_ : Aside0 ((((((w38.setCell ⟨gb388, 0, none⟩ (.int .i64 ((rd_T63 l0 a2).f0.f0))).setCell ⟨gb388, 1, none⟩ (.int .i64 ((rd_T63 l0 a2).f0.f1))).setCell ⟨gb388, 2, none⟩ (.int .i64 ((rd_T63 l0 a2).f0.f2))).setCell ⟨gb388, 3, none⟩ (.slice A387_3 ((rd_T63 l0 a2).f1).length c387_3)).setCell ⟨gb388, 4, none⟩ (.slice A387_4 ((rd_T63 l0 a2).f2).length c387_4)).heap[gb388]? = some (.cells #[.int .i64 ((rd_T63 l0 a2).f0.f0), .int .i64 ((rd_T63 l0 a2).f0.f1), .int .i64 ((rd_T63 l0 a2).f0.f2), .slice A387_3 ((rd_T63 l0 a2).f1).length c387_3, .slice A387_4 ((rd_T63 l0 a2).f2).length c387_4] 63 (0, 0))) := ⟨by exact bp5_ BK388.out⟩
              have n5_ : Aside0 (Below w.heap.size w (((((w38.setCell ⟨gb388, 0, none⟩ (.int .i64 ((rd_T63 l0 a2).f0.f0))).setCell ⟨gb388, 1, none⟩ (.int .i64 ((rd_T63 l0 a2).f0.f1))).setCell ⟨gb388, 2, none⟩ (.int .i64 ((rd_T63 l0 a2).f0.f2))).setCell ⟨gb388, 3, none⟩ (.slice A387_3 ((rd_T63 l0 a2).f1).length c387_3)).setCell ⟨gb388, 4, none⟩ (.slice A387_4 ((rd_T63 l0 a2).f2).length c387_4))) := ⟨by repeat ((with_reducible first | exact HB.out | refine below_set ?_ GE388.out))⟩
              (try clear HO_0)
              (try clear HL387_3)
              (try clear HL387_4)
              (try clear BK386)
              (try clear BK388)
              (try clear HB)
              generalize (((((w38.setCell ⟨gb388, 0, none⟩ (.int .i64 ((rd_T63 l0 a2).f0.f0))).setCell ⟨gb388, 1, none⟩ (.int .i64 ((rd_T63 l0 a2).f0.f1))).setCell ⟨gb388, 2, none⟩ (.int .i64 ((rd_T63 l0 a2).f0.f2))).setCell ⟨gb388, 3, none⟩ (.slice A387_3 ((rd_T63 l0 a2).f1).length c387_3)).setCell ⟨gb388, 4, none⟩ (.slice A387_4 ((rd_T63 l0 a2).f2).length c387_4)) = w41 at n0_ n1_ n2_ n3_ n4_ n5_ ⊢
              have HO_0 := n0_
              have HL387_3 := n1_
              have HL387_4 := n2_
              have BK386 := n3_
              have BK388 := n4_
              have HB := n5_
              clear n0_ n1_ n2_ n3_ n4_ n5_
              have n0_ := Aside0.mk (Kd.V_drew HO_0.out)
              have n1_ := Aside0.mk (Kd.V_drew HL387_3.out)
              have n2_ := Aside0.mk (Kd.V_drew HL387_4.out)
              have n3_ := Aside0.mk (blk_drew BK386.out)
              have n4_ := Aside0.mk (blk_drew BK388.out)
              have n5_ := Aside0.mk (below_drew1 HB.out)
              clear HO_0 HL387_3 HL387_4 BK386 BK388 HB; have HO_0 := n0_; have HL387_3 := n1_; have HL387_4 := n2_; have BK386 := n3_; have BK388 := n4_; have HB := n5_; clear n0_ n1_ n2_ n3_ n4_ n5_
              refine start_ (n := 4) (S := fun w' => w'.cell? ⟨gb388, 0, none⟩ = some (.int .i64 ((rd_T63 l0 a2).f0.f0)) ∧ w'.cell? ⟨gb388, 1, none⟩ = some (.int .i64 ((rd_T63 l0 a2).f0.f1)) ∧ w'.cell? ⟨gb388, 2, none⟩ = some (.int .i64 ((rd_T63 l0 a2).f0.f2)) ∧ w'.cell? ⟨gb388, 3, none⟩ = some (.slice A387_3 ((rd_T63 l0 a2).f1).length c387_3) ∧ w'.cell? ⟨gb388, 4, none⟩ = some (.slice A387_4 ((rd_T63 l0 a2).f2).length c387_4)) (ds := []) #[false, false, false, false] (by kernel_rfl) rfl rfl (bh5_ BK388.out) (fun hHeld => ?_)
              generalize w41.drew = w42 at HO_0 HL387_3 HL387_4 BK386 BK388 HB hHeld ⊢
              refine pure_ (i := 1) (N := some 6) (v := ?_) (a' := ?_) (bm 4 0x2) rfl rfl (by kernel_rfl) (fun _ _ _ h => h) (Or.inl ⟨by rfl, ?_⟩) ?_ ?_
              rotate_left
              · intro w'
                go_simp
                with_reducible rfl
              rotate_left
              · simp only [Act.put, List.setIfInBounds_toArray, List.set_cons_zero, List.set_cons_succ, i64_w, i32_w]
                rfl
              refine take_ (i := 0) (N := some 29) (v := ?_) (a' := ?_) (bm 4 0x3) rfl rfl (by kernel_rfl) (fun _ _ _ h => h) (Or.inl ⟨by rfl, ?_⟩) hHeld ?_ ?_
              rotate_left
              · rintro w' ⟨s0, s1, s2, s3, s4⟩
                go_simp
                with_reducible rfl
              rotate_left
              · simp only [Act.put, List.setIfInBounds_toArray, List.set_cons_zero, List.set_cons_succ, i64_w, i32_w]
                rfl
              refine one_ (i := 2) (N := none) (bm 4 0x7) rfl rfl (by kernel_rfl) (by decide) (fun K hK => ?_)
              have hs43 : w42.cell? ⟨gb386, 0, none⟩ = some (.int .i64 0) := (blk_cell BK386.out 0).trans rfl
              have hfs43 := blk_frozen BK386.out 0
              have hns43_1 := NB388_386.out
              have hms43_1 := NB386_388.out
              have hs44 : w42.cell? ⟨gb386, 1, none⟩ = some (.int .i64 0) := (blk_cell BK386.out 1).trans rfl
              have hfs44 := blk_frozen BK386.out 1
              have hns44_1 := NB388_386.out
              have hms44_1 := NB386_388.out
              have hs45 : w42.cell? ⟨gb386, 2, none⟩ = some (.int .i64 0) := (blk_cell BK386.out 2).trans rfl
              have hfs45 := blk_frozen BK386.out 2
              have hns45_1 := NB388_386.out
              have hms45_1 := NB386_388.out
              have hs46 : w42.cell? ⟨gb386, 3, none⟩ = some (.slice none 0 0) := (blk_cell BK386.out 3).trans rfl
              have hfs46 := blk_frozen BK386.out 3
              have hns46_1 := NB388_386.out
              have hms46_1 := NB386_388.out
              have hs47 : w42.cell? ⟨gb386, 4, none⟩ = some (.slice none 0 0) := (blk_cell BK386.out 4).trans rfl
              have hfs47 := blk_frozen BK386.out 4
              have hns47_1 := NB388_386.out
              have hms47_1 := NB386_388.out
              refine skip_ (w1 := ?_) (by rfl) rfl ?_ ?_
              rotate_left
              · go_simp
                rfl
              refine hK.out _ _ ⟨((cell_far (p := ⟨gb386, _, none⟩) NB388_386.out _).trans (((cell_far (p := ⟨gb386, _, none⟩) NB388_386.out _).trans (((cell_far (p := ⟨gb386, _, none⟩) NB388_386.out _).trans (((cell_far (p := ⟨gb386, _, none⟩) NB388_386.out _).trans (((cell_far (p := ⟨gb386, _, none⟩) NB388_386.out _).trans (hHeld.1)))))))))), ((cell_far (p := ⟨gb386, _, none⟩) NB388_386.out _).trans (((cell_far (p := ⟨gb386, _, none⟩) NB388_386.out _).trans (((cell_far (p := ⟨gb386, _, none⟩) NB388_386.out _).trans (((cell_far (p := ⟨gb386, _, none⟩) NB388_386.out _).trans (((cell_far (p := ⟨gb386, _, none⟩) NB388_386.out _).trans (hHeld.2.1)))))))))), ((cell_far (p := ⟨gb386, _, none⟩) NB388_386.out _).trans (((cell_far (p := ⟨gb386, _, none⟩) NB388_386.out _).trans (((cell_far (p := ⟨gb386, _, none⟩) NB388_386.out _).trans (((cell_far (p := ⟨gb386, _, none⟩) NB388_386.out _).trans (((cell_far (p := ⟨gb386, _, none⟩) NB388_386.out _).trans (hHeld.2.2.1)))))))))), ((cell_far (p := ⟨gb386, _, none⟩) NB388_386.out _).trans (((cell_far (p := ⟨gb386, _, none⟩) NB388_386.out _).trans (((cell_far (p := ⟨gb386, _, none⟩) NB388_386.out _).trans (((cell_far (p := ⟨gb386, _, none⟩) NB388_386.out _).trans (((cell_far (p := ⟨gb386, _, none⟩) NB388_386.out _).trans (hHeld.2.2.2.1)))))))))), ((cell_far (p := ⟨gb386, _, none⟩) NB388_386.out _).trans (((cell_far (p := ⟨gb386, _, none⟩) NB388_386.out _).trans (((cell_far (p := ⟨gb386, _, none⟩) NB388_386.out _).trans (((cell_far (p := ⟨gb386, _, none⟩) NB388_386.out _).trans (((cell_far (p := ⟨gb386, _, none⟩) NB388_386.out _).trans (hHeld.2.2.2.2))))))))))⟩ (fun hHeld => ?_)
              clear hK K
              refine pure_ (i := 3) (N := some 8) (v := ?_) (a' := ?_) (bm 4 0xf) rfl rfl (by kernel_rfl) (fun _ _ _ h => h) (Or.inl ⟨by rfl, ?_⟩) ?_ ?_
              rotate_left
              · intro w'
                go_simp
                with_reducible rfl
              rotate_left
              · simp only [Act.put, List.setIfInBounds_toArray, List.set_cons_zero, List.set_cons_succ, i64_w, i32_w]
                rfl
              refine done_ (by kernel_rfl) ?_
              try go_wp2
              refine bodyPost_ret (results_list (rs := [.tmp 6, .cell 7 63, .tmp 8]) rfl (by simp) (.tmp (.cell gb386 63 #[.int .i64 ((rd_T63 l0 a2).f0.f0), .int .i64 ((rd_T63 l0 a2).f0.f1), .int .i64 ((rd_T63 l0 a2).f0.f2), .slice A387_3 ((rd_T63 l0 a2).f1).length c387_3, .slice A387_4 ((rd_T63 l0 a2).f2).length c387_4] (0, 0) _ rfl (by exact bp5_ BK386.out) Try.underlying63 rfl (by kernel_rfl) (.tmp .nil)))) rfl ?_
              exact ⟨_, _, by rfl, by exact Kd.V_mono (vf5_ (Kd.V_mono HL387_3.out (fun k_ hk => (⟨hk, hk.2.1⟩ : _ ∧ k_ ≠ gb386))) (fun _ hk => hk.2)) (fun _ hk => hk.1.1), by exact Kd.V_mono (vf5_ (Kd.V_mono HL387_4.out (fun k_ hk => (⟨hk, hk.2.1⟩ : _ ∧ k_ ≠ gb386))) (fun _ hk => hk.2)) (fun _ hk => hk.1.1), by repeat ((with_reducible first | exact HB.out | refine below_set ?_ GE386.out))⟩
          · rw [if_neg c10] at H
            exact absurd H (by simp)
        · rw [if_neg c9] at H
          exact absurd H (by simp)

end Go.Proofs.Yteddflcloeelhaa.FPort
