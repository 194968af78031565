-- Written by the session (wip/tools) for this claim: functions of the program as Lean functions, and their contracts.
import Derived.Test.YteddflcloeelhaaOFOrdx0
import Derived.Test.YteddflcloeelhaaOXShort
namespace Go.Proofs.Yteddflcloeelhaa.FOrd
open Go.RowKit Go.Proofs.YteddflcloeelhaaW.PrintWords Go.Proofs.YteddflcloeelhaaW.PrintLast Go.Proofs.YteddflcloeelhaaW.PrintMore
attribute [local go_sem] max2_int min2_int max_two min_two max_three min_three max_four min_four   -- for this text's walks alone
set_option linter.unusedVariables false
set_option linter.unusedSimpArgs false

/-! ### ring_New: function 13 -/
def ring_New.f (a0 : Int) : Option (List Int × Int × Int × Int) := if a0 < 1 then (some (([] : List Int), 0, 0, 1)) else (if a0 > 4 then (some (([] : List Int), 0, 0, 1)) else (if 0 ≤ a0 then (if (a0 : Int).toNat ≤ 35184372088832 then (some ((List.replicate (a0 : Int).toNat 0), 0, 0, 0)) else (none)) else (none)))
set_option maxHeartbeats 8000000 in
set_option maxRecDepth 100000 in
theorem ring_New.calls (a0 : Int) (r1 : List Int) (r2 : Int) (r3 : Int) (r4 : Int) (w : World) (h : ring_New.f a0 = some (r1, r2, r3, r4)) :
    Calls Try.prog 13 #[.int .i64 a0] w fun e w' => ∃ v0_ : Value, e = .returned (.tuple #[.agg #[v0_, .int .i64 r2, .int .i64 r3], .int .i64 r4]) ∧ Kd.R (Kd.int .i64) 3 w' w.heap.size (fun _ => True) v0_ r1 ∧ Below w.heap.size w w' := by
  have hu24 := Try.underlying24
  have HB := Aside0.mk (Below.refl w.heap.size w)
  have H : (if a0 < 1 then (some (([] : List Int), 0, 0, 1)) else (if a0 > 4 then (some (([] : List Int), 0, 0, 1)) else (if 0 ≤ a0 then (if (a0 : Int).toNat ≤ 35184372088832 then (some ((List.replicate (a0 : Int).toNat 0), 0, 0, 0)) else (none)) else (none)))) = some (r1, r2, r3, r4) := h
  clear h
  by_cases c2 : a0 < 1
  · rw [if_pos c2] at H
    have c2b0 : decide (a0 < 1) = true := decide_eq_true c2
    clear c2
    simp only [Option.some.injEq, Prod.mk.injEq] at H
    obtain ⟨rfl, rfl, rfl, rfl⟩ := H
    go_enter Try.func13, Try.ntmps13
    go_wp2_with (((with_reducible refine gate_dst (N := 2) rfl ?_); refine box_event ?hg (N := 2) ?hd (cs := #[.slice none 0 0, .int .i64 0, .int .i64 0]) (t := 24) ?hr ?_; (case hd => rfl); (case hg => rfl); (case hr => (go_simp; done)); intro gb101 hg w3 hbox hb; have n1_ := Aside0.mk (hbox); have n2_ := Aside0.mk ((by rw [hg]; exact (below_size HB.out) : w.heap.size ≤ gb101)); have n3_ := Aside0.mk ((by rw [hg]; exact (below_size HB.out) : w.heap.size ≤ gb101)); have BK101 := n1_; have GW101 := n2_; have GE101 := n3_; clear n1_ n2_ n3_; replace HB := hb_ HB hb; clear hb hbox hg; obtain ⟨_, _, _, _, _, _⟩ := bk3_ BK101.out))
    refine bodyPost_ret (results_ct rfl _ _ gb101 24 #[.slice none 0 0, .int .i64 0, .int .i64 0] (0, 0) _ rfl (by exact bp3_ BK101.out) Try.underlying24 rfl (by kernel_rfl)) rfl ?_
    exact ⟨_, by rfl, by (exact Kd.R_nil _ _ _ _ _), by repeat ((with_reducible first | exact HB.out | refine below_set ?_ GE101.out))⟩
  · rw [if_neg c2] at H
    have c2b0 : decide (a0 < 1) = false := decide_eq_false c2
    clear c2
    by_cases c5 : a0 > 4
    · rw [if_pos c5] at H
      have c5b0 : decide (4 < a0) = true := decide_eq_true c5
      clear c5
      simp only [Option.some.injEq, Prod.mk.injEq] at H
      obtain ⟨rfl, rfl, rfl, rfl⟩ := H
      go_enter Try.func13, Try.ntmps13
      go_wp2_with (((with_reducible refine gate_dst (N := 2) rfl ?_); refine box_event ?hg (N := 2) ?hd (cs := #[.slice none 0 0, .int .i64 0, .int .i64 0]) (t := 24) ?hr ?_; (case hd => rfl); (case hg => rfl); (case hr => (go_simp; done)); intro gb101 hg w6 hbox hb; have n1_ := Aside0.mk (hbox); have n2_ := Aside0.mk ((by rw [hg]; exact (below_size HB.out) : w.heap.size ≤ gb101)); have n3_ := Aside0.mk ((by rw [hg]; exact (below_size HB.out) : w.heap.size ≤ gb101)); have BK101 := n1_; have GW101 := n2_; have GE101 := n3_; clear n1_ n2_ n3_; replace HB := hb_ HB hb; clear hb hbox hg; obtain ⟨_, _, _, _, _, _⟩ := bk3_ BK101.out))
      refine bodyPost_ret (results_ct rfl _ _ gb101 24 #[.slice none 0 0, .int .i64 0, .int .i64 0] (0, 0) _ rfl (by exact bp3_ BK101.out) Try.underlying24 rfl (by kernel_rfl)) rfl ?_
      exact ⟨_, by rfl, by (exact Kd.R_nil _ _ _ _ _), by repeat ((with_reducible first | exact HB.out | refine below_set ?_ GE101.out))⟩
    · rw [if_neg c5] at H
      have c5b0 : decide (4 < a0) = false := decide_eq_false c5
      clear c5
      by_cases c8 : 0 ≤ a0
      · rw [if_pos c8] at H
        have c8b0 := eq_true c8
        have c8b1 : decide (0 ≤ a0) = true := decide_eq_true c8
        clear c8
        by_cases c9 : (a0 : Int).toNat ≤ 35184372088832
        · rw [if_pos c9] at H
          have c9b0 := eq_true c9
          have c9b1 : decide ((a0 : Int).toNat ≤ 35184372088832) = true := decide_eq_true c9
          clear c9
          obtain ⟨y102, hy102⟩ : ∃ y_ : List Int, y_ = (List.replicate (a0 : Int).toNat 0) := ⟨_, rfl⟩
          replace H : (some (y102, 0, 0, 0)) = some (r1, r2, r3, r4) := by (rw [hy102]; with_reducible exact H)
          have Ny102 := Aside0.mk hy102
          clear hy102
          simp only [Option.some.injEq, Prod.mk.injEq] at H
          obtain ⟨rfl, rfl, rfl, rfl⟩ := H
          go_enter Try.func13, Try.ntmps13
          go_wp2_with (first | ((with_reducible refine gate_dst (N := 2) rfl ?_); refine box_event ?hg (N := 2) ?hd (cs := #[.slice none 0 0, .int .i64 0, .int .i64 0]) (t := 24) ?hr ?_; (case hd => rfl); (case hg => rfl); (case hr => (go_simp; done)); intro gb101 hg w10 hbox hb; have n1_ := Aside0.mk (hbox); have n2_ := Aside0.mk ((by rw [hg]; exact (below_size HB.out) : w.heap.size ≤ gb101)); have n3_ := Aside0.mk ((by rw [hg]; exact (below_size HB.out) : w.heap.size ≤ gb101)); have BK101 := n1_; have GW101 := n2_; have GE101 := n3_; clear n1_ n2_ n3_; replace HB := hb_ HB hb; clear hb hbox hg) | ((with_reducible refine gate_dst (N := 12) rfl ?_); refine Kd.R_make (Kd.int .i64) _ 3 rfl (N := 12) rfl 22 _ _ rfl a0 rfl rfl Try.underlying22 (.int .i64 0) 8 info3 rfl (by decide) (by omega) 0 (ok := fun _ => True) (okp := fun _ => True) rfl (fun _ hk => hk) trivial (of_decide_eq_true (by (with_reducible assumption))) (Nat.le_trans (Nat.mul_le_mul_right _ (of_decide_eq_true (by (with_reducible assumption)) : a0.toNat ≤ 35184372088832)) (by omega)) (Below.refl _ _) (Nat.le_refl _) ?_; intro v103 w11 ho12 hb hg_ hnew_; clear hg_ hnew_; ((rw [← Ny102.out] at ho12)); have n0_ := Aside0.mk (Kd.R_lower ho12 (below_size HB.out)); have HO104 := n0_; clear n0_; replace BK101 := kb_ BK101 hb; replace HB := hb_ HB hb; clear hb ho12; obtain ⟨Ao13, co13, eo13⟩ := Kd.R_slice HO104.out; subst eo13; obtain ⟨_, _, _, _, _, _⟩ := bk3_ BK101.out))
          refine bodyPost_ret (results_ct rfl _ _ gb101 24 #[.slice Ao13 y102.length co13, .int .i64 0, .int .i64 0] (0, 0) _ rfl (by exact bp3_ BK101.out) Try.underlying24 rfl (by kernel_rfl)) rfl ?_
          exact ⟨_, by rfl, by exact Kd.R_mono (Kd.R_far (p := ⟨gb101, 2, none⟩) (Kd.R_far (p := ⟨gb101, 1, none⟩) (Kd.R_far (p := ⟨gb101, 0, none⟩) (Kd.R_types HO104.out BK101.out (by decide)) (fun _ hk => hk.2) (.slice Ao13 y102.length co13)) (fun _ hk => hk.2) (.int .i64 0)) (fun _ hk => hk.2) (.int .i64 0)) (fun _ hk => trivial), by repeat ((with_reducible first | exact HB.out | refine below_set ?_ GE101.out))⟩
        · rw [if_neg c9] at H
          exact absurd H (by simp)
      · rw [if_neg c8] at H
        exact absurd H (by simp)

/-! ### port_may: function 43 -/
-- NO ROUNDS
-- NOT MAKING
def port_may.in4 (x : Int) : Bool := decide (0 ≤ x ∧ x < 4)
set_option maxHeartbeats 8000000 in
set_option maxRecDepth 100000 in
theorem port_mayIn.calls (x : Int) (w : World) : Calls Try.prog 46 #[.int .i64 x] w fun e w' => e = .returned (.bool (port_may.in4 x)) ∧ Below w.heap.size w w' := by
  have HB := Aside0.mk (Below.refl w.heap.size w)
  unfold port_may.in4
  by_cases c1 : 0 ≤ x
  · have q1 : decide (0 ≤ x) = true := decide_eq_true c1
    by_cases c2 : x < 4
    · have q2 : decide (x < 4) = true := decide_eq_true c2
      rw [decide_eq_true (⟨c1, c2⟩ : 0 ≤ x ∧ x < 4)]
      clear c1 c2
      go_enter Try.func46, Try.ntmps46
      go_wp2
      go_ret
      exact ⟨rfl, by (exact HB.out)⟩
    · have q2 : decide (x < 4) = false := decide_eq_false c2
      rw [decide_eq_false (fun h : 0 ≤ x ∧ x < 4 => c2 h.2)]
      clear c1 c2
      go_enter Try.func46, Try.ntmps46
      go_wp2
      go_ret
      exact ⟨rfl, by (exact HB.out)⟩
  · have q1 : decide (0 ≤ x) = false := decide_eq_false c1
    rw [decide_eq_false (fun h : 0 ≤ x ∧ x < 4 => c1 h.1)]
    clear c1
    go_enter Try.func46, Try.ntmps46
    go_wp2
    go_ret
    exact ⟨rfl, by (exact HB.out)⟩
def port_may.f (a0_0 : Int) (a0_1 : Int) (a0_2 : Int) : Option (Bool) := if port_may.in4 a0_0 = true then (if port_may.in4 a0_1 = true then (if a0_0 = a0_1 then (some false) else (if a0_2 ≥ 1 then (some (decide (a0_2 ≤ 4))) else (some false))) else (some false)) else (some false)
set_option maxHeartbeats 8000000 in
set_option maxRecDepth 100000 in
theorem port_may.calls (a0_0 : Int) (a0_1 : Int) (a0_2 : Int) (r : Bool) (w : World) (h : port_may.f a0_0 a0_1 a0_2 = some r) :
    Calls Try.prog 43 #[.agg #[.int .i64 a0_0, .int .i64 a0_1, .int .i64 a0_2]] w fun e w' => e = .returned (.bool r) ∧ Below w.heap.size w w' := by
  have hu51 := Try.underlying51
  have HB := Aside0.mk (Below.refl w.heap.size w)
  have H := h
  clear h
  unfold port_may.f at H
  by_cases c1 : port_may.in4 a0_0 = true
  · rw [if_pos c1] at H
    by_cases c2 : port_may.in4 a0_1 = true
    · rw [if_pos c2] at H
      by_cases c3 : a0_0 = a0_1
      · rw [if_pos c3] at H
        have c3b0 : (a0_0 == a0_1) = true := beq_iff_eq.mpr c3
        have c3b1 : (a0_0 != a0_1) = false := bne_eq_false_iff_eq.mpr c3
        clear c3
        obtain rfl := Option.some.inj H
        go_enter Try.func43, Try.ntmps43
        go_wp2_with (first | ((with_reducible refine gate_dst (N := 1) rfl ?_); refine box_event ?hg (N := 1) ?hd (cs := #[.int .i64 a0_0, .int .i64 a0_1, .int .i64 a0_2]) (t := 51) ?hr ?_; (case hd => rfl); (case hg => rfl); (case hr => (go_simp; done)); intro gb hg w7 hbox hb; have n0_ := Aside0.mk (below_step HB.out hb); have BK := Aside0.mk hbox; clear HB; have HB := n0_; clear n0_; clear hb hbox hg; have hcz0 : w7.cell? ⟨gb, 0, none⟩ = some (.int .i64 a0_0) := (blk_cell BK.out 0).trans rfl; have hcz1 : w7.cell? ⟨gb, 1, none⟩ = some (.int .i64 a0_1) := (blk_cell BK.out 1).trans rfl; have hcz2 : w7.cell? ⟨gb, 2, none⟩ = some (.int .i64 a0_2) := (blk_cell BK.out 2).trans rfl) | (go_at_call 46; refine (port_mayIn.calls _ _).mono ?_; rintro e w8 ⟨rfl, hb⟩; replace HB := hb_ HB hb; replace BK := kb_ BK hb; have hcz0 : w8.cell? ⟨gb, 0, none⟩ = some (.int .i64 a0_0) := (blk_cell BK.out 0).trans rfl; have hcz1 : w8.cell? ⟨gb, 1, none⟩ = some (.int .i64 a0_1) := (blk_cell BK.out 1).trans rfl; have hcz2 : w8.cell? ⟨gb, 2, none⟩ = some (.int .i64 a0_2) := (blk_cell BK.out 2).trans rfl))
        go_ret
        exact ⟨by rfl, by (exact HB.out)⟩
      · rw [if_neg c3] at H
        have c3b0 : (a0_0 == a0_1) = false := beq_eq_false_iff_ne.mpr c3
        have c3b1 : (a0_0 != a0_1) = true := bne_iff_ne.mpr c3
        clear c3
        by_cases c4 : a0_2 ≥ 1
        · rw [if_pos c4] at H
          have c4b0 : decide (1 ≤ a0_2) = true := decide_eq_true c4
          clear c4
          obtain rfl := Option.some.inj H
          go_enter Try.func43, Try.ntmps43
          go_wp2_with (first | ((with_reducible refine gate_dst (N := 1) rfl ?_); refine box_event ?hg (N := 1) ?hd (cs := #[.int .i64 a0_0, .int .i64 a0_1, .int .i64 a0_2]) (t := 51) ?hr ?_; (case hd => rfl); (case hg => rfl); (case hr => (go_simp; done)); intro gb hg w7 hbox hb; have n0_ := Aside0.mk (below_step HB.out hb); have BK := Aside0.mk hbox; clear HB; have HB := n0_; clear n0_; clear hb hbox hg; have hcz0 : w7.cell? ⟨gb, 0, none⟩ = some (.int .i64 a0_0) := (blk_cell BK.out 0).trans rfl; have hcz1 : w7.cell? ⟨gb, 1, none⟩ = some (.int .i64 a0_1) := (blk_cell BK.out 1).trans rfl; have hcz2 : w7.cell? ⟨gb, 2, none⟩ = some (.int .i64 a0_2) := (blk_cell BK.out 2).trans rfl) | (go_at_call 46; refine (port_mayIn.calls _ _).mono ?_; rintro e w8 ⟨rfl, hb⟩; replace HB := hb_ HB hb; replace BK := kb_ BK hb; have hcz0 : w8.cell? ⟨gb, 0, none⟩ = some (.int .i64 a0_0) := (blk_cell BK.out 0).trans rfl; have hcz1 : w8.cell? ⟨gb, 1, none⟩ = some (.int .i64 a0_1) := (blk_cell BK.out 1).trans rfl; have hcz2 : w8.cell? ⟨gb, 2, none⟩ = some (.int .i64 a0_2) := (blk_cell BK.out 2).trans rfl))
          go_ret
          exact ⟨by rfl, by (exact HB.out)⟩
        · rw [if_neg c4] at H
          have c4b0 : decide (1 ≤ a0_2) = false := decide_eq_false c4
          clear c4
          obtain rfl := Option.some.inj H
          go_enter Try.func43, Try.ntmps43
          go_wp2_with (first | ((with_reducible refine gate_dst (N := 1) rfl ?_); refine box_event ?hg (N := 1) ?hd (cs := #[.int .i64 a0_0, .int .i64 a0_1, .int .i64 a0_2]) (t := 51) ?hr ?_; (case hd => rfl); (case hg => rfl); (case hr => (go_simp; done)); intro gb hg w7 hbox hb; have n0_ := Aside0.mk (below_step HB.out hb); have BK := Aside0.mk hbox; clear HB; have HB := n0_; clear n0_; clear hb hbox hg; have hcz0 : w7.cell? ⟨gb, 0, none⟩ = some (.int .i64 a0_0) := (blk_cell BK.out 0).trans rfl; have hcz1 : w7.cell? ⟨gb, 1, none⟩ = some (.int .i64 a0_1) := (blk_cell BK.out 1).trans rfl; have hcz2 : w7.cell? ⟨gb, 2, none⟩ = some (.int .i64 a0_2) := (blk_cell BK.out 2).trans rfl) | (go_at_call 46; refine (port_mayIn.calls _ _).mono ?_; rintro e w8 ⟨rfl, hb⟩; replace HB := hb_ HB hb; replace BK := kb_ BK hb; have hcz0 : w8.cell? ⟨gb, 0, none⟩ = some (.int .i64 a0_0) := (blk_cell BK.out 0).trans rfl; have hcz1 : w8.cell? ⟨gb, 1, none⟩ = some (.int .i64 a0_1) := (blk_cell BK.out 1).trans rfl; have hcz2 : w8.cell? ⟨gb, 2, none⟩ = some (.int .i64 a0_2) := (blk_cell BK.out 2).trans rfl))
          go_ret
          exact ⟨by rfl, by (exact HB.out)⟩
    · rw [if_neg c2] at H
      have c2 : port_may.in4 a0_1 = false := by simpa using c2
      obtain rfl := Option.some.inj H
      go_enter Try.func43, Try.ntmps43
      go_wp2_with (first | ((with_reducible refine gate_dst (N := 1) rfl ?_); refine box_event ?hg (N := 1) ?hd (cs := #[.int .i64 a0_0, .int .i64 a0_1, .int .i64 a0_2]) (t := 51) ?hr ?_; (case hd => rfl); (case hg => rfl); (case hr => (go_simp; done)); intro gb hg w7 hbox hb; have n0_ := Aside0.mk (below_step HB.out hb); have BK := Aside0.mk hbox; clear HB; have HB := n0_; clear n0_; clear hb hbox hg; have hcz0 : w7.cell? ⟨gb, 0, none⟩ = some (.int .i64 a0_0) := (blk_cell BK.out 0).trans rfl; have hcz1 : w7.cell? ⟨gb, 1, none⟩ = some (.int .i64 a0_1) := (blk_cell BK.out 1).trans rfl; have hcz2 : w7.cell? ⟨gb, 2, none⟩ = some (.int .i64 a0_2) := (blk_cell BK.out 2).trans rfl) | (go_at_call 46; refine (port_mayIn.calls _ _).mono ?_; rintro e w8 ⟨rfl, hb⟩; replace HB := hb_ HB hb; replace BK := kb_ BK hb; have hcz0 : w8.cell? ⟨gb, 0, none⟩ = some (.int .i64 a0_0) := (blk_cell BK.out 0).trans rfl; have hcz1 : w8.cell? ⟨gb, 1, none⟩ = some (.int .i64 a0_1) := (blk_cell BK.out 1).trans rfl; have hcz2 : w8.cell? ⟨gb, 2, none⟩ = some (.int .i64 a0_2) := (blk_cell BK.out 2).trans rfl))
      go_ret
      exact ⟨by rfl, by (exact HB.out)⟩
  · rw [if_neg c1] at H
    have c1 : port_may.in4 a0_0 = false := by simpa using c1
    obtain rfl := Option.some.inj H
    go_enter Try.func43, Try.ntmps43
    go_wp2_with (first | ((with_reducible refine gate_dst (N := 1) rfl ?_); refine box_event ?hg (N := 1) ?hd (cs := #[.int .i64 a0_0, .int .i64 a0_1, .int .i64 a0_2]) (t := 51) ?hr ?_; (case hd => rfl); (case hg => rfl); (case hr => (go_simp; done)); intro gb hg w7 hbox hb; have n0_ := Aside0.mk (below_step HB.out hb); have BK := Aside0.mk hbox; clear HB; have HB := n0_; clear n0_; clear hb hbox hg; have hcz0 : w7.cell? ⟨gb, 0, none⟩ = some (.int .i64 a0_0) := (blk_cell BK.out 0).trans rfl; have hcz1 : w7.cell? ⟨gb, 1, none⟩ = some (.int .i64 a0_1) := (blk_cell BK.out 1).trans rfl; have hcz2 : w7.cell? ⟨gb, 2, none⟩ = some (.int .i64 a0_2) := (blk_cell BK.out 2).trans rfl) | (go_at_call 46; refine (port_mayIn.calls _ _).mono ?_; rintro e w8 ⟨rfl, hb⟩; replace HB := hb_ HB hb; replace BK := kb_ BK hb; have hcz0 : w8.cell? ⟨gb, 0, none⟩ = some (.int .i64 a0_0) := (blk_cell BK.out 0).trans rfl; have hcz1 : w8.cell? ⟨gb, 1, none⟩ = some (.int .i64 a0_1) := (blk_cell BK.out 1).trans rfl; have hcz2 : w8.cell? ⟨gb, 2, none⟩ = some (.int .i64 a0_2) := (blk_cell BK.out 2).trans rfl))
    go_ret
    exact ⟨by rfl, by (exact HB.out)⟩

/-! ### port_Open: function 26 -/
def port_Open.l0 : Nat → List (S76) → List (S51) → Int → Int → Option ((List (S76)) × Int)
  | 0, _, _, _, _ => none
  | k + 1, x4, x11, x12, x13 => if x13 < x12 then (if 0 ≤ x13 then (if x13 < (x11.length : Int) then ((port_may.f ((rd_T51 x11 x13).f0) ((rd_T51 x11 x13).f1) ((rd_T51 x11 x13).f2)).bind fun t107 => (if t107 = true then ((ring_New.f ((rd_T51 x11 x13).f2)).bind fun bt108 => ((ring_New.f ((rd_T51 x11 x13).f2)).bind fun bt115 => (if x4.length < 1353245080339 then (port_Open.l0 k (x4 ++ [(⟨(⟨(rd_T51 x11 x13).f0, (rd_T51 x11 x13).f1, (rd_T51 x11 x13).f2⟩ : S51), (⟨bt108.1, bt108.2.1, bt108.2.2.1⟩ : S24), (⟨bt115.1, bt115.2.1, bt115.2.2.1⟩ : S24)⟩ : S76)]) x11 x12 (wrap64 (x13 + 1))) else (none)))) else (some (([] : List (S76)), 1)))) else (none)) else (none)) else (if (x4.length : Int) > 4 then (some (([] : List (S76)), 1)) else (some (x4, 0)))
def port_Open.f (k : Nat) (l0 : List (S51)) : Option ((List (S76)) × Int) := port_Open.l0 k ([] : List (S76)) l0 (l0.length : Int) 0
theorem port_Open.mono_l : ∀ k, (∀ y0 y1 y2 y3, LeO (port_Open.l0 k y0 y1 y2 y3) (port_Open.l0 (k + 1) y0 y1 y2 y3))
  | 0 => fun _ _ _ _ r h => by simp [port_Open.l0] at h
  | k + 1 => by
    have ih0 := port_Open.mono_l k
    · intro y0 y1 y2 y3
      unfold port_Open.l0
      repeat' first | (with_reducible exact ih0 _ _ _ _) | (with_reducible exact LeO.refl _) | (with_reducible refine LeO.ite ?_ ?_) | (with_reducible refine LeO.bind ?_ (fun _ => ?_))
theorem port_Open.mono : ∀ a0 k, LeO (port_Open.f k a0) (port_Open.f (k + 1) a0) := by
  intro a0 k
  have ih0 := port_Open.mono_l k
  unfold port_Open.f
  repeat' (with_reducible exact ih0 _ _ _ _)
set_option maxHeartbeats 8000000 in
set_option maxRecDepth 100000 in
theorem port_Open.calls (k : Nat) (A0 : Option Addr) (c0 : Nat) (l0 : List (S51)) (r1 : List (S76)) (r2 : Int) (w : World) (hr0 : Kd.C k51 w A0 l0.length l0) (hc0 : l0.length ≤ c0) (h : port_Open.f k l0 = some (r1, r2)) :
    Calls Try.prog 26 #[.slice A0 l0.length c0] w fun e w' => ∃ v0_ : Value, e = .returned (.tuple #[v0_, .int .i64 r2]) ∧ Kd.S k76 76 w' w.heap.size (fun _ => True) v0_ r1 ∧ Below w.heap.size w w' := by
  have hu51 := Try.underlying51
  have hu24 := Try.underlying24
  have hu76 := Try.underlying76
  have HR0 := Aside0.mk hr0
  have HC0 := Aside0.mk hc0
  clear hr0 hc0
  have HB := Aside0.mk (Below.refl w.heap.size w)
  have H : (port_Open.l0 k ([] : List (S76)) l0 (l0.length : Int) 0) = some (r1, r2) := h
  clear h
  have H' := Aside0.mk H
  clear H
  go_enter Try.func26, Try.ntmps26
  go_wp2
  go_loopg [4, 13] k (fun kq v4 v13 w' => ∃ (x4_1 : List (S76)) (x13_1 : Int), v13 = .int .i64 x13_1 ∧ Aside0 (port_Open.l0 kq x4_1 l0 (l0.length : Int) x13_1 = some (r1, r2)) ∧ Aside0 (kq ≤ k) ∧ Aside0 (Kd.S k76 76 w' w.heap.size (fun _ => True) v4 x4_1) ∧ Aside0 (Below w.heap.size w w'))
  case atStart => exact ⟨(([] : List (S76))), (0), (by rfl), H', ⟨Nat.le_refl _⟩, ⟨by (exact Kd.S_nil _ _ _ _ _)⟩, ⟨HB.out⟩⟩
  case round =>
    clear H'
    obtain ⟨x4_1, x13_1, rfl, HA, HK1, HO_4, HB⟩ := hrel
    cases gk with
    | zero => exact absurd HA.out (by simp [port_Open.l0])
    | succ k1 =>
      have H := HA.out
      clear HA
      simp only [port_Open.l0] at H
      by_cases c2 : x13_1 < (l0.length : Int)
      · rw [if_pos c2] at H
        have c2b0 : decide (x13_1 < (l0.length : Int)) = true := decide_eq_true c2
        clear c2
        by_cases c3 : 0 ≤ x13_1
        · rw [if_pos c3] at H
          have c3b0 : decide (0 ≤ x13_1) = true := decide_eq_true c3
          clear c3
          by_cases c4 : x13_1 < (l0.length : Int)
          · rw [if_pos c4] at H
            have c4b0 : decide (x13_1 < (l0.length : Int)) = true := decide_eq_true c4
            clear c4
            replace H := Option.bind_eq_some_iff.mp H
            obtain ⟨t107, A50, H⟩ := H
            replace H : (if t107 = true then ((ring_New.f ((rd_T51 l0 x13_1).f2)).bind fun bt108 => ((ring_New.f ((rd_T51 l0 x13_1).f2)).bind fun bt115 => (if x4_1.length < 1353245080339 then (port_Open.l0 k1 (x4_1 ++ [(⟨(⟨(rd_T51 l0 x13_1).f0, (rd_T51 l0 x13_1).f1, (rd_T51 l0 x13_1).f2⟩ : S51), (⟨bt108.1, bt108.2.1, bt108.2.2.1⟩ : S24), (⟨bt115.1, bt115.2.1, bt115.2.2.1⟩ : S24)⟩ : S76)]) l0 (l0.length : Int) (wrap64 (x13_1 + 1))) else (none)))) else (some (([] : List (S76)), 1))) = some (r1, r2) := H
            have A5 := Aside0.mk A50
            clear A50
            by_cases c6 : t107 = true
            · subst c6
              have H1 : ((ring_New.f ((rd_T51 l0 x13_1).f2)).bind fun bt108 => ((ring_New.f ((rd_T51 l0 x13_1).f2)).bind fun bt115 => (if x4_1.length < 1353245080339 then (port_Open.l0 k1 (x4_1 ++ [(⟨(⟨(rd_T51 l0 x13_1).f0, (rd_T51 l0 x13_1).f1, (rd_T51 l0 x13_1).f2⟩ : S51), (⟨bt108.1, bt108.2.1, bt108.2.2.1⟩ : S24), (⟨bt115.1, bt115.2.1, bt115.2.2.1⟩ : S24)⟩ : S76)]) l0 (l0.length : Int) (wrap64 (x13_1 + 1))) else (none)))) = some (r1, r2) := by rw [if_pos rfl] at H; exact H
              clear H
              have H := H1
              clear H1
              replace H := Option.bind_eq_some_iff.mp H
              obtain ⟨⟨t108, t111, t112, t113⟩, A70, H⟩ := H
              replace H : ((ring_New.f ((rd_T51 l0 x13_1).f2)).bind fun bt115 => (if x4_1.length < 1353245080339 then (port_Open.l0 k1 (x4_1 ++ [(⟨(⟨(rd_T51 l0 x13_1).f0, (rd_T51 l0 x13_1).f1, (rd_T51 l0 x13_1).f2⟩ : S51), (⟨t108, t111, t112⟩ : S24), (⟨bt115.1, bt115.2.1, bt115.2.2.1⟩ : S24)⟩ : S76)]) l0 (l0.length : Int) (wrap64 (x13_1 + 1))) else (none))) = some (r1, r2) := H
              have A7 := Aside0.mk A70
              clear A70
              replace H := Option.bind_eq_some_iff.mp H
              obtain ⟨⟨t115, t118, t119, t120⟩, A80, H⟩ := H
              replace H : (if x4_1.length < 1353245080339 then (port_Open.l0 k1 (x4_1 ++ [(⟨(⟨(rd_T51 l0 x13_1).f0, (rd_T51 l0 x13_1).f1, (rd_T51 l0 x13_1).f2⟩ : S51), (⟨t108, t111, t112⟩ : S24), (⟨t115, t118, t119⟩ : S24)⟩ : S76)]) l0 (l0.length : Int) (wrap64 (x13_1 + 1))) else (none)) = some (r1, r2) := H
              have A8 := Aside0.mk A80
              clear A80
              by_cases c9 : x4_1.length < 1353245080339
              · rw [if_pos c9] at H
                have LMc9 := Aside0.mk c9
                clear c9
                obtain ⟨y122, hy122⟩ : ∃ y_ : List (S76), y_ = (x4_1 ++ [(⟨(⟨(rd_T51 l0 x13_1).f0, (rd_T51 l0 x13_1).f1, (rd_T51 l0 x13_1).f2⟩ : S51), (⟨t108, t111, t112⟩ : S24), (⟨t115, t118, t119⟩ : S24)⟩ : S76)]) := ⟨_, rfl⟩
                replace H : (port_Open.l0 k1 y122 l0 (l0.length : Int) (wrap64 (x13_1 + 1))) = some (r1, r2) := by (rw [hy122]; with_reducible exact H)
                have Ny122 := Aside0.mk hy122
                clear hy122
                have H' := Aside0.mk H
                clear H
                have p105 : 0 ≤ (x13_1 : Int) := of_decide_eq_true (by (with_reducible assumption))
                have q105 : x13_1 < (l0.length : Int) := of_decide_eq_true (by (with_reducible assumption))
                obtain ⟨ad105, e105, hx105_0, hx105_1, hx105_2⟩ := at_T51 HR0.out x13_1 p105 q105
                cases e105
                replace hx105_0 := bc_ HB.out hx105_0
                replace hx105_1 := bc_ HB.out hx105_1
                replace hx105_2 := bc_ HB.out hx105_2
                replace p105 := eq_true p105
                replace q105 := eq_true q105
                go_wp2_with (first | ((with_reducible refine gate_dst (N := 6) rfl ?_); refine box_event ?hg (N := 6) ?hd (cs := #[.int .i64 0, .int .i64 0, .int .i64 0]) (t := 51) ?hr ?_; (case hd => rfl); (case hg => rfl); (case hr => (go_simp; done)); intro gb106 hg w10 hbox hb; have n2_ := Aside0.mk (hbox); have n3_ := Aside0.mk ((by rw [hg]; exact (below_size HB.out) : w.heap.size ≤ gb106)); have n4_ := Aside0.mk ((by rw [hg]; exact (below_size HB.out) : w.heap.size ≤ gb106)); have BK106 := n2_; have GW106 := n3_; have GE106 := n4_; clear n2_ n3_ n4_; replace HO_4 := sb_ HO_4 hb; replace HB := hb_ HB hb; clear hb hbox hg; obtain ⟨_, _, _, _, _, _⟩ := bk3_ BK106.out) | ((with_reducible refine gate_callee (f := 43) rfl ?_); refine goesL_ (some 18) rfl rfl Try.func43 (by kernel_rfl) rfl #[.agg #[.int .i64 ((rd_T51 l0 x13_1).f0), .int .i64 ((rd_T51 l0 x13_1).f1), .int .i64 ((rd_T51 l0 x13_1).f2)]] rfl (by (try simp only [List.map_toArray, List.map_cons, List.map_nil]); rfl) ?_; (with_reducible refine (port_may.calls ((rd_T51 l0 x13_1).f0) ((rd_T51 l0 x13_1).f1) ((rd_T51 l0 x13_1).f2) true _ A5.out).mono ?_); rintro e w12 ⟨rfl, hb⟩; refine ⟨_, rfl, ?_⟩; have n0_ := Aside0.mk (Kd.S_below (by exact (Kd.S_mono (Kd.S_far (p := ⟨gb106, 2, none⟩) (Kd.S_far (p := ⟨gb106, 1, none⟩) (Kd.S_far (p := ⟨gb106, 0, none⟩) (Kd.S_types HO_4.out BK106.out (by decide)) (fun _ hk => hk.2) (.int .i64 ((rd_T51 l0 x13_1).f0))) (fun _ hk => hk.2) (.int .i64 ((rd_T51 l0 x13_1).f1))) (fun _ hk => hk.2) (.int .i64 ((rd_T51 l0 x13_1).f2))) (fun _ h_ => h_.1))) hb); have n1_ := Aside0.mk (blk_below (g := gb106) (o := .cells #[.int .i64 ((rd_T51 l0 x13_1).f0), .int .i64 ((rd_T51 l0 x13_1).f1), .int .i64 ((rd_T51 l0 x13_1).f2)] 51 (0, 0)) (by exact bp3_ BK106.out) hb); have n2_ := Aside0.mk (below_step (by repeat ((with_reducible first | exact HB.out | refine below_set ?_ GE106.out))) hb); clear HO_4 BK106 HB; have HO_4 := n0_; have BK106 := n1_; have HB := n2_; clear n0_ n1_ n2_; (try clear hb); (try clear hb2); (try clear hk); (try clear hi); obtain ⟨_, _, _, _, _, _⟩ := bk3_ BK106.out) | ((with_reducible refine gate_callee (f := 13) rfl ?_); refine goesL_ (some 23) rfl rfl Try.func13 (by kernel_rfl) rfl #[.int .i64 ((rd_T51 l0 x13_1).f2)] rfl (by (try simp only [List.map_toArray, List.map_cons, List.map_nil]); rfl) ?_; (with_reducible refine (ring_New.calls ((rd_T51 l0 x13_1).f2) t108 t111 t112 t113 _ A7.out).mono ?_); rintro e w14 ⟨v109, rfl, ho0, hb⟩; refine ⟨_, rfl, ?_⟩; have n0_ := Aside0.mk (Kd.S_elder' HO_4.out (Kd.R_base ho0) hb); have n1_ := Aside0.mk (Kd.R_lower ho0 (below_size HB.out)); clear HO_4; have HO_4 := n0_; have HO110 := n1_; clear n0_ n1_; replace BK106 := kb_ BK106 hb; replace HB := hb_ HB hb; (try clear hb); (try clear hb2); (try clear hk); (try clear hi); (try clear ho0)) | ((with_reducible refine gate_dst (N := 7) rfl ?_); refine box_event ?hg (N := 7) ?hd (cs := #[.slice none 0 0, .int .i64 0, .int .i64 0]) (t := 24) ?hr ?_; (case hd => rfl); (case hg => rfl); (case hr => (go_simp; done)); intro gb114 hg w15 hbox hb; have n4_ := Aside0.mk (hbox); have n5_ := Aside0.mk ((by rw [hg]; exact (below_size HB.out) : w.heap.size ≤ gb114)); have n6_ := Aside0.mk ((by rw [hg]; exact (below_size HB.out) : w.heap.size ≤ gb114)); have n7_ := Aside0.mk ((by rw [hg]; exact Nat.ne_of_lt (blk_lt BK106.out) : gb106 ≠ gb114)); have n8_ := Aside0.mk ((by rw [hg]; exact Nat.ne_of_gt (blk_lt BK106.out) : gb114 ≠ gb106)); have BK114 := n4_; have GW114 := n5_; have GE114 := n6_; have NB106_114 := n7_; have NB114_106 := n8_; clear n4_ n5_ n6_ n7_ n8_; replace HO_4 := sb_ HO_4 hb; replace HO110 := rb_ HO110 hb; replace BK106 := kb_ BK106 hb; replace HB := hb_ HB hb; clear hb hbox hg; obtain ⟨Ao16, co16, eo16⟩ := Kd.R_slice HO110.out; subst eo16; have hnb17 := NB114_106.out; have hnc17 := NB106_114.out; obtain ⟨_, _, _, _, _, _⟩ := bk3_ BK114.out; obtain ⟨_, _, _, _, _, _⟩ := bk3_ BK106.out) | ((with_reducible refine gate_callee (f := 13) rfl ?_); refine goesL_ (some 29) rfl rfl Try.func13 (by kernel_rfl) rfl #[.int .i64 ((rd_T51 l0 x13_1).f2)] rfl (by (try simp only [List.map_toArray, List.map_cons, List.map_nil]); rfl) ?_; (with_reducible refine (ring_New.calls ((rd_T51 l0 x13_1).f2) t115 t118 t119 t120 _ A8.out).mono ?_); rintro e w20 ⟨v116, rfl, ho0, hb⟩; refine ⟨_, rfl, ?_⟩; have n0_ := Aside0.mk (Kd.S_elder' (by exact (Kd.S_mono (Kd.S_far (p := ⟨gb114, 2, none⟩) (Kd.S_far (p := ⟨gb114, 1, none⟩) (Kd.S_far (p := ⟨gb114, 0, none⟩) (Kd.S_types HO_4.out BK114.out (by decide)) (fun _ hk => hk.2) (.slice Ao16 t108.length co16)) (fun _ hk => hk.2) (.int .i64 t111)) (fun _ hk => hk.2) (.int .i64 t112)) (fun _ h_ => h_.1))) (Kd.R_base ho0) hb); have n1_ := Aside0.mk (Kd.R_elder' (by exact (Kd.R_mono (Kd.R_far (p := ⟨gb114, 2, none⟩) (Kd.R_far (p := ⟨gb114, 1, none⟩) (Kd.R_far (p := ⟨gb114, 0, none⟩) (Kd.R_types HO110.out BK114.out (by decide)) (fun _ hk => hk.2) (.slice Ao16 t108.length co16)) (fun _ hk => hk.2) (.int .i64 t111)) (fun _ hk => hk.2) (.int .i64 t112)) (fun _ h_ => h_.1))) (Kd.R_base ho0) hb); have n2_ := Aside0.mk (Kd.R_lower (Kd.R_new' ho0 (Kd.R_lt (by exact (Kd.R_mono (Kd.R_far (p := ⟨gb114, 2, none⟩) (Kd.R_far (p := ⟨gb114, 1, none⟩) (Kd.R_far (p := ⟨gb114, 0, none⟩) (Kd.R_types HO110.out BK114.out (by decide)) (fun _ hk => hk.2) (.slice Ao16 t108.length co16)) (fun _ hk => hk.2) (.int .i64 t111)) (fun _ hk => hk.2) (.int .i64 t112)) (fun _ h_ => h_.1))))) (below_size (by repeat ((with_reducible first | exact HB.out | refine below_set ?_ GE114.out))))); have n3_ := Aside0.mk (blk_below (g := gb106) (o := .cells #[.int .i64 ((rd_T51 l0 x13_1).f0), .int .i64 ((rd_T51 l0 x13_1).f1), .int .i64 ((rd_T51 l0 x13_1).f2)] 51 (0, 0)) (by refine blk_far ?_ NB106_114.out _; refine blk_far ?_ NB106_114.out _; refine blk_far ?_ NB106_114.out _; exact BK106.out) hb); have n4_ := Aside0.mk (blk_below (g := gb114) (o := .cells #[.slice Ao16 t108.length co16, .int .i64 t111, .int .i64 t112] 24 (0, 0)) (by exact bp3_ BK114.out) hb); have n5_ := Aside0.mk (below_step (by repeat ((with_reducible first | exact HB.out | refine below_set ?_ GE114.out))) hb); clear HO_4 HO110 BK106 BK114 HB; have HO_4 := n0_; have HO110 := n1_; have HO117 := n2_; have BK106 := n3_; have BK114 := n4_; have HB := n5_; clear n0_ n1_ n2_ n3_ n4_ n5_; (try clear hb); (try clear hb2); (try clear hk); (try clear hi); (try clear ho0)) | ((with_reducible refine gate_dst (N := 9) rfl ?_); refine box_event ?hg (N := 9) ?hd (cs := #[.slice none 0 0, .int .i64 0, .int .i64 0]) (t := 24) ?hr ?_; (case hd => rfl); (case hg => rfl); (case hr => (go_simp; done)); intro gb121 hg w21 hbox hb; have n6_ := Aside0.mk (hbox); have n7_ := Aside0.mk ((by rw [hg]; exact (below_size HB.out) : w.heap.size ≤ gb121)); have n8_ := Aside0.mk ((by rw [hg]; exact (below_size HB.out) : w.heap.size ≤ gb121)); have n9_ := Aside0.mk ((by rw [hg]; exact Nat.ne_of_lt (blk_lt BK106.out) : gb106 ≠ gb121)); have n10_ := Aside0.mk ((by rw [hg]; exact Nat.ne_of_gt (blk_lt BK106.out) : gb121 ≠ gb106)); have n11_ := Aside0.mk ((by rw [hg]; exact Nat.ne_of_lt (blk_lt BK114.out) : gb114 ≠ gb121)); have n12_ := Aside0.mk ((by rw [hg]; exact Nat.ne_of_gt (blk_lt BK114.out) : gb121 ≠ gb114)); have BK121 := n6_; have GW121 := n7_; have GE121 := n8_; have NB106_121 := n9_; have NB121_106 := n10_; have NB114_121 := n11_; have NB121_114 := n12_; clear n6_ n7_ n8_ n9_ n10_ n11_ n12_; replace HO_4 := sb_ HO_4 hb; replace HO110 := rb_ HO110 hb; replace HO117 := rb_ HO117 hb; replace BK106 := kb_ BK106 hb; replace BK114 := kb_ BK114 hb; replace HB := hb_ HB hb; clear hb hbox hg; obtain ⟨Ao22, co22, eo22⟩ := Kd.R_slice HO117.out; subst eo22; have hnb23 := NB121_106.out; have hnc23 := NB106_121.out; have hnb24 := NB121_114.out; have hnc24 := NB114_121.out; obtain ⟨_, _, _, _, _, _⟩ := bk3_ BK121.out) | ((with_reducible refine gate_store (t := 24) (p := 9) rfl ?_); refine store_event (t := 24) (p := 9) (v := ?vo_w26) (w1 := (((w21.setCell ⟨gb121, 0, none⟩ (.slice Ao22 t115.length co22)).setCell ⟨gb121, 1, none⟩ (.int .i64 t118)).setCell ⟨gb121, 2, none⟩ (.int .i64 t119))) ?hg ?ho ?hn ?hr ?_; (case ho => rfl); (case hg => rfl); (case hn => rfl); (case hr => (go_simp; done)); intro w26 hw; have n0_ : Aside0 (Kd.S k76 76 w26 w.heap.size (fun k_ => some k_ ≠ (.slice Ao16 t108.length co16 : Value).ownBlock ∧ some k_ ≠ (.slice Ao22 t115.length co22 : Value).ownBlock) u4 x4_1) := ⟨(by rw [hw]; exact (by exact Kd.S_mono (Kd.S_far (p := ⟨gb121, 2, none⟩) (Kd.S_far (p := ⟨gb121, 1, none⟩) (Kd.S_far (p := ⟨gb121, 0, none⟩) (Kd.S_types HO_4.out BK121.out (by decide)) (fun _ hk => hk.2) (.slice Ao22 t115.length co22)) (fun _ hk => hk.2) (.int .i64 t118)) (fun _ hk => hk.2) (.int .i64 t119)) (fun _ hk => ⟨hk.1.1.2, hk.1.2⟩)))⟩; have n1_ : Aside0 (Kd.R (Kd.int .i64) 3 w26 w.heap.size (fun k_ => some k_ ≠ (.slice Ao22 t115.length co22 : Value).ownBlock) (.slice Ao16 t108.length co16) t108) := ⟨(by rw [hw]; exact (by exact Kd.R_mono (Kd.R_far (p := ⟨gb121, 2, none⟩) (Kd.R_far (p := ⟨gb121, 1, none⟩) (Kd.R_far (p := ⟨gb121, 0, none⟩) (Kd.R_types HO110.out BK121.out (by decide)) (fun _ hk => hk.2) (.slice Ao22 t115.length co22)) (fun _ hk => hk.2) (.int .i64 t118)) (fun _ hk => hk.2) (.int .i64 t119)) (fun _ hk => hk.1.2)))⟩; have n2_ : Aside0 (Kd.R (Kd.int .i64) 3 w26 w.heap.size (fun k_ => some k_ ≠ (.slice Ao16 t108.length co16 : Value).ownBlock) (.slice Ao22 t115.length co22) t115) := ⟨(by rw [hw]; exact (by exact Kd.R_mono (Kd.R_far (p := ⟨gb121, 2, none⟩) (Kd.R_far (p := ⟨gb121, 1, none⟩) (Kd.R_far (p := ⟨gb121, 0, none⟩) (Kd.R_types HO117.out BK121.out (by decide)) (fun _ hk => hk.2) (.slice Ao22 t115.length co22)) (fun _ hk => hk.2) (.int .i64 t118)) (fun _ hk => hk.2) (.int .i64 t119)) (fun _ hk => hk.1.2)))⟩; have n3_ : Aside0 (w26.heap[gb106]? = some (.cells #[.int .i64 ((rd_T51 l0 x13_1).f0), .int .i64 ((rd_T51 l0 x13_1).f1), .int .i64 ((rd_T51 l0 x13_1).f2)] 51 (0, 0))) := ⟨(by rw [hw]; exact (by refine blk_far ?_ NB106_121.out _; refine blk_far ?_ NB106_121.out _; refine blk_far ?_ NB106_121.out _; exact BK106.out))⟩; have n4_ : Aside0 (w26.heap[gb114]? = some (.cells #[.slice Ao16 t108.length co16, .int .i64 t111, .int .i64 t112] 24 (0, 0))) := ⟨(by rw [hw]; exact (by refine blk_far ?_ NB114_121.out _; refine blk_far ?_ NB114_121.out _; refine blk_far ?_ NB114_121.out _; exact BK114.out))⟩; have n5_ : Aside0 (w26.heap[gb121]? = some (.cells #[.slice Ao22 t115.length co22, .int .i64 t118, .int .i64 t119] 24 (0, 0))) := ⟨(by rw [hw]; exact (by exact bp3_ BK121.out))⟩; have n6_ : Aside0 (Below w.heap.size w w26) := ⟨(by rw [hw]; exact (by repeat ((with_reducible first | exact HB.out | refine below_set ?_ GE121.out))))⟩; clear hw; clear HO_4; clear HO110; clear HO117; clear BK106; clear BK114; clear BK121; clear HB; have HO_4 := n0_; have HO110 := n1_; have HO117 := n2_; have BK106 := n3_; have BK114 := n4_; have BK121 := n5_; have HB := n6_; clear n0_ n1_ n2_ n3_ n4_ n5_ n6_; obtain ⟨_, _, _, _, _, _⟩ := bk3_ BK106.out; obtain ⟨_, _, _, _, _, _⟩ := bk3_ BK114.out; obtain ⟨_, _, _, _, _, _⟩ := bk3_ BK121.out) | ((with_reducible refine gate_builtin (b := .append) (xs := #[.tmp 32, .tmp 37]) rfl ?_); at_builtin; refine Kd.S_append k76 (w0 := w) w.heap.size rfl (.tmp 32) (.tmp 37) 47 76 (.agg #[(.int .i64 0), (.int .i64 0), (.int .i64 0), (.slice none 0 0), (.int .i64 0), (.int .i64 0), (.slice none 0 0), (.int .i64 0), (.int .i64 0)]) 104 rfl Try.underlying47 info76 rfl (by decide) (by omega) u4 x4_1 (⟨(⟨(rd_T51 l0 x13_1).f0, (rd_T51 l0 x13_1).f1, (rd_T51 l0 x13_1).f2⟩ : S51), (⟨t108, t111, t112⟩ : S24), (⟨t115, t118, t119⟩ : S24)⟩ : S76) [.int .i64 ((rd_T51 l0 x13_1).f0), .int .i64 ((rd_T51 l0 x13_1).f1), .int .i64 ((rd_T51 l0 x13_1).f2), .slice Ao16 t108.length co16, .int .i64 t111, .int .i64 t112, .slice Ao22 t115.length co22, .int .i64 t118, .int .i64 t119] (fun _ => True) (fun k_ => some k_ = (.slice Ao16 t108.length co16 : Value).ownBlock ∨ some k_ = (.slice Ao22 t115.length co22 : Value).ownBlock) rfl rfl ?aP (fun k_ hk_ => hk_.elim (fun h_ => ((Kd.R_mono (ok' := fun k_ => ((fun _ => True)) k_ ∧ some k_ ≠ (u4 : Value).ownBlock) (Kd.R_apart' (HO110.out) (Kd.S_typed HO_4.out) (by decide)) (fun k_ hk => ⟨trivial, hk.2⟩))).1 k_ h_.symm) (fun h_ => ((Kd.R_mono (ok' := fun k_ => ((fun _ => True)) k_ ∧ some k_ ≠ (u4 : Value).ownBlock) (Kd.R_apart' (HO117.out) (Kd.S_typed HO_4.out) (by decide)) (fun k_ hk => ⟨trivial, hk.2⟩))).1 k_ h_.symm)) ?aF ?aO ?aB ?aS ?aL ?_; (case aP => exact k76_mkM _ _ _ (⟨(⟨(rd_T51 l0 x13_1).f0, (rd_T51 l0 x13_1).f1, (rd_T51 l0 x13_1).f2⟩ : S51), (⟨t108, t111, t112⟩ : S24), (⟨t115, t118, t119⟩ : S24)⟩ : S76) (Kd.R_mono (Kd.R_tight rfl (Kd.R_mono (ok' := fun k_ => ((fun _ => True)) k_ ∧ some k_ ≠ (u4 : Value).ownBlock) (Kd.R_apart' (HO110.out) (Kd.S_typed HO_4.out) (by decide)) (fun k_ hk => ⟨trivial, hk.2⟩))) (fun _ h_ => Or.inl h_)) (Kd.R_mono (Kd.R_tight rfl (Kd.R_mono (ok' := fun k_ => ((fun _ => True)) k_ ∧ some k_ ≠ (u4 : Value).ownBlock) (Kd.R_apart' (HO117.out) (Kd.S_typed HO_4.out) (by decide)) (fun k_ hk => ⟨trivial, hk.2⟩))) (fun _ h_ => Or.inr (h_)))); (case aB => exact HB.out); (case aF => exact (fun _ _ => trivial)); (case aO => exact (by exact Kd.S_mono HO_4.out (fun k_ hk => ⟨trivial, fun e_ => e_.elim (fun h_ => hk.1 h_) (fun h_ => hk.2 h_)⟩))); (case aS => exact (below_size HB.out)); (case aL => have := LMc9.out; omega); intro v123 w30 ho hb hg hat; rw [← Ny122.out] at ho; have n0_ := Aside0.mk (blk_grown BK106.out hg (Kd.S_ne HO_4.out BK106.out (by decide))); have n1_ := Aside0.mk (blk_grown BK114.out hg (Kd.S_ne HO_4.out BK114.out (by decide))); have n2_ := Aside0.mk (blk_grown BK121.out hg (Kd.S_ne HO_4.out BK121.out (by decide))); have n3_ := Aside0.mk (hb); have n4_ := Aside0.mk (ho); clear BK106 BK114 BK121 HB HO_4 HO110 HO117; have BK106 := n0_; have BK114 := n1_; have BK121 := n2_; have HB := n3_; have HO124 := n4_; clear n0_ n1_ n2_ n3_ n4_; clear ho hb hg hat))
                go_roundg k1
                case measure => have := HK1.out; omega
                case rel => exact ⟨(y122), (wrap64 (x13_1 + 1)), (by rfl), H', ⟨by have := HK1.out; omega⟩, ⟨HO124.out⟩, ⟨HB.out⟩⟩
              · rw [if_neg c9] at H
                exact absurd H (by simp)
            · replace c6 := Bool.eq_false_iff.mpr c6
              subst c6
              have H1 : (some (([] : List (S76)), 1)) = some (r1, r2) := by rw [if_neg (show ¬ (false = true) by decide)] at H; exact H
              clear H
              have H := H1
              clear H1
              simp only [Option.some.injEq, Prod.mk.injEq] at H
              obtain ⟨rfl, rfl⟩ := H
              have p105 : 0 ≤ (x13_1 : Int) := of_decide_eq_true (by (with_reducible assumption))
              have q105 : x13_1 < (l0.length : Int) := of_decide_eq_true (by (with_reducible assumption))
              obtain ⟨ad105, e105, hx105_0, hx105_1, hx105_2⟩ := at_T51 HR0.out x13_1 p105 q105
              cases e105
              replace hx105_0 := bc_ HB.out hx105_0
              replace hx105_1 := bc_ HB.out hx105_1
              replace hx105_2 := bc_ HB.out hx105_2
              replace p105 := eq_true p105
              replace q105 := eq_true q105
              go_wp2_with (first | ((with_reducible refine gate_dst (N := 6) rfl ?_); refine box_event ?hg (N := 6) ?hd (cs := #[.int .i64 0, .int .i64 0, .int .i64 0]) (t := 51) ?hr ?_; (case hd => rfl); (case hg => rfl); (case hr => (go_simp; done)); intro gb106 hg w31 hbox hb; have n2_ := Aside0.mk (hbox); have n3_ := Aside0.mk ((by rw [hg]; exact (below_size HB.out) : w.heap.size ≤ gb106)); have n4_ := Aside0.mk ((by rw [hg]; exact (below_size HB.out) : w.heap.size ≤ gb106)); have BK106 := n2_; have GW106 := n3_; have GE106 := n4_; clear n2_ n3_ n4_; replace HO_4 := sb_ HO_4 hb; replace HB := hb_ HB hb; clear hb hbox hg; obtain ⟨_, _, _, _, _, _⟩ := bk3_ BK106.out) | ((with_reducible refine gate_callee (f := 43) rfl ?_); refine goesL_ (some 18) rfl rfl Try.func43 (by kernel_rfl) rfl #[.agg #[.int .i64 ((rd_T51 l0 x13_1).f0), .int .i64 ((rd_T51 l0 x13_1).f1), .int .i64 ((rd_T51 l0 x13_1).f2)]] rfl (by (try simp only [List.map_toArray, List.map_cons, List.map_nil]); rfl) ?_; (with_reducible refine (port_may.calls ((rd_T51 l0 x13_1).f0) ((rd_T51 l0 x13_1).f1) ((rd_T51 l0 x13_1).f2) false _ A5.out).mono ?_); rintro e w33 ⟨rfl, hb⟩; refine ⟨_, rfl, ?_⟩; have n0_ := Aside0.mk (Kd.S_below (by exact (Kd.S_mono (Kd.S_far (p := ⟨gb106, 2, none⟩) (Kd.S_far (p := ⟨gb106, 1, none⟩) (Kd.S_far (p := ⟨gb106, 0, none⟩) (Kd.S_types HO_4.out BK106.out (by decide)) (fun _ hk => hk.2) (.int .i64 ((rd_T51 l0 x13_1).f0))) (fun _ hk => hk.2) (.int .i64 ((rd_T51 l0 x13_1).f1))) (fun _ hk => hk.2) (.int .i64 ((rd_T51 l0 x13_1).f2))) (fun _ h_ => h_.1))) hb); have n1_ := Aside0.mk (blk_below (g := gb106) (o := .cells #[.int .i64 ((rd_T51 l0 x13_1).f0), .int .i64 ((rd_T51 l0 x13_1).f1), .int .i64 ((rd_T51 l0 x13_1).f2)] 51 (0, 0)) (by exact bp3_ BK106.out) hb); have n2_ := Aside0.mk (below_step (by repeat ((with_reducible first | exact HB.out | refine below_set ?_ GE106.out))) hb); clear HO_4 BK106 HB; have HO_4 := n0_; have BK106 := n1_; have HB := n2_; clear n0_ n1_ n2_; (try clear hb); (try clear hb2); (try clear hk); (try clear hi)))
              go_ret2
              exact ⟨_, by rfl, by (exact Kd.S_nil _ _ _ _ _), by repeat ((with_reducible (exact HB.out)))⟩
          · rw [if_neg c4] at H
            exact absurd H (by simp)
        · rw [if_neg c3] at H
          exact absurd H (by simp)
      · rw [if_neg c2] at H
        have c2b0 : decide (x13_1 < (l0.length : Int)) = false := decide_eq_false c2
        clear c2
        by_cases c34 : (x4_1.length : Int) > 4
        · rw [if_pos c34] at H
          have c34b0 : decide (4 < (x4_1.length : Int)) = true := decide_eq_true c34
          have c34b1 : decide (4 < x4_1.length) = true := decide_eq_true (by omega)
          clear c34
          simp only [Option.some.injEq, Prod.mk.injEq] at H
          obtain ⟨rfl, rfl⟩ := H
          obtain ⟨Ao35, co35, eo35⟩ := Kd.S_slice HO_4.out
          subst eo35
          go_wp2
          go_ret2
          exact ⟨_, by rfl, by (exact Kd.S_nil _ _ _ _ _), by repeat ((with_reducible (exact HB.out)))⟩
        · rw [if_neg c34] at H
          have c34b0 : decide (4 < (x4_1.length : Int)) = false := decide_eq_false c34
          have c34b1 : decide (4 < x4_1.length) = false := decide_eq_false (by omega)
          clear c34
          simp only [Option.some.injEq, Prod.mk.injEq] at H
          obtain ⟨rfl, rfl⟩ := H
          obtain ⟨Ao36, co36, eo36⟩ := Kd.S_slice HO_4.out
          subst eo36
          go_wp2
          go_ret2
          exact ⟨_, by rfl, by exact HO_4.out, by repeat ((with_reducible (exact HB.out)))⟩

/-! ### ring_Right: function 17 -/
def ring_Right.f (l0_0 : List Int) (a0_1 : Int) (a0_2 : Int) : Option (Bool) := if (l0_0.length : Int) > 0 then (if a0_1 ≥ 0 then (if a0_1 < (l0_0.length : Int) then (if a0_2 ≥ 0 then (some (decide (a0_2 ≤ (l0_0.length : Int)))) else (some false)) else (some false)) else (some false)) else (some false)
set_option maxHeartbeats 8000000 in
set_option maxRecDepth 100000 in
theorem ring_Right.calls (A0_0 : Option Addr) (c0_0 : Nat) (l0_0 : List Int) (a0_1 : Int) (a0_2 : Int) (r : Bool) (w : World) (hr0_0 : Kd.C (Kd.int .i64) w A0_0 l0_0.length l0_0) (hc0_0 : l0_0.length ≤ c0_0) (h : ring_Right.f l0_0 a0_1 a0_2 = some r) :
    Calls Try.prog 17 #[.agg #[.slice A0_0 l0_0.length c0_0, .int .i64 a0_1, .int .i64 a0_2]] w fun e w' => e = .returned (.bool r) ∧ Below w.heap.size w w' := by
  have hu24 := Try.underlying24
  have HR0_0 := Aside0.mk hr0_0
  have HC0_0 := Aside0.mk hc0_0
  clear hr0_0 hc0_0
  have HB := Aside0.mk (Below.refl w.heap.size w)
  have H : (if (l0_0.length : Int) > 0 then (if a0_1 ≥ 0 then (if a0_1 < (l0_0.length : Int) then (if a0_2 ≥ 0 then (some (decide (a0_2 ≤ (l0_0.length : Int)))) else (some false)) else (some false)) else (some false)) else (some false)) = some r := h
  clear h
  by_cases c2 : (l0_0.length : Int) > 0
  · rw [if_pos c2] at H
    have c2b0 : decide (0 < (l0_0.length : Int)) = true := decide_eq_true c2
    have c2b1 : decide (0 < l0_0.length) = true := decide_eq_true (by omega)
    clear c2
    by_cases c3 : a0_1 ≥ 0
    · rw [if_pos c3] at H
      have c3b0 : decide (0 ≤ a0_1) = true := decide_eq_true c3
      clear c3
      by_cases c4 : a0_1 < (l0_0.length : Int)
      · rw [if_pos c4] at H
        have c4b0 : decide (a0_1 < (l0_0.length : Int)) = true := decide_eq_true c4
        clear c4
        by_cases c5 : a0_2 ≥ 0
        · rw [if_pos c5] at H
          have c5b0 : decide (0 ≤ a0_2) = true := decide_eq_true c5
          clear c5
          obtain rfl := Option.some.inj H
          go_enter Try.func17, Try.ntmps17
          go_wp2_with (((with_reducible refine gate_dst (N := 1) rfl ?_); refine box_event ?hg (N := 1) ?hd (cs := #[.slice A0_0 l0_0.length c0_0, .int .i64 a0_1, .int .i64 a0_2]) (t := 24) ?hr ?_; (case hd => rfl); (case hg => rfl); (case hr => (go_simp; done)); intro gb125 hg w6 hbox hb; have n1_ := Aside0.mk (hbox); have n2_ := Aside0.mk ((by rw [hg]; exact (below_size HB.out) : w.heap.size ≤ gb125)); have n3_ := Aside0.mk ((by rw [hg]; exact (below_size HB.out) : w.heap.size ≤ gb125)); have BK125 := n1_; have GW125 := n2_; have GE125 := n3_; clear n1_ n2_ n3_; replace HB := hb_ HB hb; clear hb hbox hg; obtain ⟨_, _, _, _, _, _⟩ := bk3_ BK125.out))
          go_ret
          exact ⟨by rfl, by repeat ((with_reducible (exact HB.out)))⟩
        · rw [if_neg c5] at H
          have c5b0 : decide (0 ≤ a0_2) = false := decide_eq_false c5
          clear c5
          obtain rfl := Option.some.inj H
          go_enter Try.func17, Try.ntmps17
          go_wp2_with (((with_reducible refine gate_dst (N := 1) rfl ?_); refine box_event ?hg (N := 1) ?hd (cs := #[.slice A0_0 l0_0.length c0_0, .int .i64 a0_1, .int .i64 a0_2]) (t := 24) ?hr ?_; (case hd => rfl); (case hg => rfl); (case hr => (go_simp; done)); intro gb125 hg w8 hbox hb; have n1_ := Aside0.mk (hbox); have n2_ := Aside0.mk ((by rw [hg]; exact (below_size HB.out) : w.heap.size ≤ gb125)); have n3_ := Aside0.mk ((by rw [hg]; exact (below_size HB.out) : w.heap.size ≤ gb125)); have BK125 := n1_; have GW125 := n2_; have GE125 := n3_; clear n1_ n2_ n3_; replace HB := hb_ HB hb; clear hb hbox hg; obtain ⟨_, _, _, _, _, _⟩ := bk3_ BK125.out))
          go_ret
          exact ⟨by rfl, by repeat ((with_reducible (exact HB.out)))⟩
      · rw [if_neg c4] at H
        have c4b0 : decide (a0_1 < (l0_0.length : Int)) = false := decide_eq_false c4
        clear c4
        obtain rfl := Option.some.inj H
        go_enter Try.func17, Try.ntmps17
        go_wp2_with (((with_reducible refine gate_dst (N := 1) rfl ?_); refine box_event ?hg (N := 1) ?hd (cs := #[.slice A0_0 l0_0.length c0_0, .int .i64 a0_1, .int .i64 a0_2]) (t := 24) ?hr ?_; (case hd => rfl); (case hg => rfl); (case hr => (go_simp; done)); intro gb125 hg w10 hbox hb; have n1_ := Aside0.mk (hbox); have n2_ := Aside0.mk ((by rw [hg]; exact (below_size HB.out) : w.heap.size ≤ gb125)); have n3_ := Aside0.mk ((by rw [hg]; exact (below_size HB.out) : w.heap.size ≤ gb125)); have BK125 := n1_; have GW125 := n2_; have GE125 := n3_; clear n1_ n2_ n3_; replace HB := hb_ HB hb; clear hb hbox hg; obtain ⟨_, _, _, _, _, _⟩ := bk3_ BK125.out))
        go_ret
        exact ⟨by rfl, by repeat ((with_reducible (exact HB.out)))⟩
    · rw [if_neg c3] at H
      have c3b0 : decide (0 ≤ a0_1) = false := decide_eq_false c3
      clear c3
      obtain rfl := Option.some.inj H
      go_enter Try.func17, Try.ntmps17
      go_wp2_with (((with_reducible refine gate_dst (N := 1) rfl ?_); refine box_event ?hg (N := 1) ?hd (cs := #[.slice A0_0 l0_0.length c0_0, .int .i64 a0_1, .int .i64 a0_2]) (t := 24) ?hr ?_; (case hd => rfl); (case hg => rfl); (case hr => (go_simp; done)); intro gb125 hg w12 hbox hb; have n1_ := Aside0.mk (hbox); have n2_ := Aside0.mk ((by rw [hg]; exact (below_size HB.out) : w.heap.size ≤ gb125)); have n3_ := Aside0.mk ((by rw [hg]; exact (below_size HB.out) : w.heap.size ≤ gb125)); have BK125 := n1_; have GW125 := n2_; have GE125 := n3_; clear n1_ n2_ n3_; replace HB := hb_ HB hb; clear hb hbox hg; obtain ⟨_, _, _, _, _, _⟩ := bk3_ BK125.out))
      go_ret
      exact ⟨by rfl, by repeat ((with_reducible (exact HB.out)))⟩
  · rw [if_neg c2] at H
    have c2b0 : decide (0 < (l0_0.length : Int)) = false := decide_eq_false c2
    have c2b1 : decide (0 < l0_0.length) = false := decide_eq_false (by omega)
    clear c2
    obtain rfl := Option.some.inj H
    go_enter Try.func17, Try.ntmps17
    go_wp2_with (((with_reducible refine gate_dst (N := 1) rfl ?_); refine box_event ?hg (N := 1) ?hd (cs := #[.slice A0_0 l0_0.length c0_0, .int .i64 a0_1, .int .i64 a0_2]) (t := 24) ?hr ?_; (case hd => rfl); (case hg => rfl); (case hr => (go_simp; done)); intro gb125 hg w14 hbox hb; have n1_ := Aside0.mk (hbox); have n2_ := Aside0.mk ((by rw [hg]; exact (below_size HB.out) : w.heap.size ≤ gb125)); have n3_ := Aside0.mk ((by rw [hg]; exact (below_size HB.out) : w.heap.size ≤ gb125)); have BK125 := n1_; have GW125 := n2_; have GE125 := n3_; clear n1_ n2_ n3_; replace HB := hb_ HB hb; clear hb hbox hg; obtain ⟨_, _, _, _, _, _⟩ := bk3_ BK125.out))
    go_ret
    exact ⟨by rfl, by repeat ((with_reducible (exact HB.out)))⟩

/-! ### ring_at: function 41 -/
def ring_at.f (l0_0 : List Int) (a0_1 : Int) (a0_2 : Int) (a1 : Int) : Option (Int) := if (l0_0.length : Int) = 0 then (none) else (some (Int.tmod (wrap64 (a0_1 + a1)) (l0_0.length : Int)))
set_option maxHeartbeats 8000000 in
set_option maxRecDepth 100000 in
theorem ring_at.calls (A0_0 : Option Addr) (c0_0 : Nat) (l0_0 : List Int) (a0_1 : Int) (a0_2 : Int) (a1 : Int) (r : Int) (w : World) (hr0_0 : Kd.C (Kd.int .i64) w A0_0 l0_0.length l0_0) (hc0_0 : l0_0.length ≤ c0_0) (h : ring_at.f l0_0 a0_1 a0_2 a1 = some r) :
    Calls Try.prog 41 #[.agg #[.slice A0_0 l0_0.length c0_0, .int .i64 a0_1, .int .i64 a0_2], .int .i64 a1] w fun e w' => e = .returned (.int .i64 r) ∧ Below w.heap.size w w' := by
  have hu24 := Try.underlying24
  have HR0_0 := Aside0.mk hr0_0
  have HC0_0 := Aside0.mk hc0_0
  clear hr0_0 hc0_0
  have HB := Aside0.mk (Below.refl w.heap.size w)
  have H : (if (l0_0.length : Int) = 0 then (none) else (some (Int.tmod (wrap64 (a0_1 + a1)) (l0_0.length : Int)))) = some r := h
  clear h
  by_cases c3 : (l0_0.length : Int) = 0
  · rw [if_pos c3] at H
    exact absurd H (by simp)
  · rw [if_neg c3] at H
    have c3b0 : ((l0_0.length : Int) == 0) = false := beq_eq_false_iff_ne.mpr c3
    have c3b1 : ((l0_0.length : Int) != 0) = true := bne_iff_ne.mpr c3
    have c3b2 : ¬ (l0_0 = []) := fun h_ => c3 (by rw [h_]; rfl)
    obtain rfl := Option.some.inj H
    go_enter Try.func41, Try.ntmps41
    go_wp2_with (((with_reducible refine gate_dst (N := 2) rfl ?_); refine box_event ?hg (N := 2) ?hd (cs := #[.slice A0_0 l0_0.length c0_0, .int .i64 a0_1, .int .i64 a0_2]) (t := 24) ?hr ?_; (case hd => rfl); (case hg => rfl); (case hr => (go_simp; done)); intro gb126 hg w4 hbox hb; have n1_ := Aside0.mk (hbox); have n2_ := Aside0.mk ((by rw [hg]; exact (below_size HB.out) : w.heap.size ≤ gb126)); have n3_ := Aside0.mk ((by rw [hg]; exact (below_size HB.out) : w.heap.size ≤ gb126)); have BK126 := n1_; have GW126 := n2_; have GE126 := n3_; clear n1_ n2_ n3_; replace HB := hb_ HB hb; clear hb hbox hg; obtain ⟨_, _, _, _, _, _⟩ := bk3_ BK126.out))
    go_ret
    exact ⟨by rfl, by repeat ((with_reducible (exact HB.out)))⟩

/-! ### ring_own: function 42 -/
def ring_own.f (l0_0 : List Int) (a0_1 : Int) (a0_2 : Int) : Option (List Int × Int × Int) := (some (([] : List Int) : List Int)).bind fun y129 => (if y129.length + l0_0.length < 17592186044416 then (some ((y129 ++ l0_0), a0_1, a0_2)) else (none))
set_option maxHeartbeats 8000000 in
set_option maxRecDepth 100000 in
theorem ring_own.calls (A0_0 : Option Addr) (c0_0 : Nat) (l0_0 : List Int) (a0_1 : Int) (a0_2 : Int) (r1 : List Int) (r2 : Int) (r3 : Int) (w : World) (hr0_0 : Kd.C (Kd.int .i64) w A0_0 l0_0.length l0_0) (hc0_0 : l0_0.length ≤ c0_0) (h : ring_own.f l0_0 a0_1 a0_2 = some (r1, r2, r3)) :
    Calls Try.prog 42 #[.agg #[.slice A0_0 l0_0.length c0_0, .int .i64 a0_1, .int .i64 a0_2]] w fun e w' => ∃ v0_ : Value, e = .returned (.agg #[v0_, .int .i64 r2, .int .i64 r3]) ∧ Kd.R (Kd.int .i64) 3 w' w.heap.size (fun _ => True) v0_ r1 ∧ Below w.heap.size w w' := by
  have hu24 := Try.underlying24
  have HR0_0 := Aside0.mk hr0_0
  have HC0_0 := Aside0.mk hc0_0
  clear hr0_0 hc0_0
  have HB := Aside0.mk (Below.refl w.heap.size w)
  have H : ((some (([] : List Int) : List Int)).bind fun y129 => (if y129.length + l0_0.length < 17592186044416 then (some ((y129 ++ l0_0), a0_1, a0_2)) else (none))) = some (r1, r2, r3) := h
  clear h
  obtain ⟨y129, hy129⟩ : ∃ y_ : List Int, y_ = (([] : List Int)) := ⟨_, rfl⟩
  replace H : (if y129.length + l0_0.length < 17592186044416 then (some ((y129 ++ l0_0), a0_1, a0_2)) else (none)) = some (r1, r2, r3) := by (have H2_ := (Option.bind_some _ _).symm.trans H; rw [hy129]; with_reducible exact H2_)
  have Ny129 := Aside0.mk hy129
  clear hy129
  by_cases c2 : y129.length + l0_0.length < 17592186044416
  · rw [if_pos c2] at H
    have LMc2 := Aside0.mk c2
    clear c2
    obtain ⟨y132, hy132⟩ : ∃ y_ : List Int, y_ = (y129 ++ l0_0) := ⟨_, rfl⟩
    replace H : (some (y132, a0_1, a0_2)) = some (r1, r2, r3) := by (rw [hy132]; with_reducible exact H)
    have Ny132 := Aside0.mk hy132
    clear hy132
    simp only [Option.some.injEq, Prod.mk.injEq] at H
    obtain ⟨rfl, rfl, rfl⟩ := H
    go_enter Try.func42, Try.ntmps42
    go_wp2_with (first | ((with_reducible refine gate_dst (N := 1) rfl ?_); refine box_event ?hg (N := 1) ?hd (cs := #[.slice A0_0 l0_0.length c0_0, .int .i64 a0_1, .int .i64 a0_2]) (t := 24) ?hr ?_; (case hd => rfl); (case hg => rfl); (case hr => (go_simp; done)); intro gb127 hg w3 hbox hb; have n1_ := Aside0.mk (hbox); have n2_ := Aside0.mk ((by rw [hg]; exact (below_size HB.out) : w.heap.size ≤ gb127)); have n3_ := Aside0.mk ((by rw [hg]; exact (below_size HB.out) : w.heap.size ≤ gb127)); have BK127 := n1_; have GW127 := n2_; have GE127 := n3_; clear n1_ n2_ n3_; replace HB := hb_ HB hb; clear hb hbox hg) | ((with_reducible refine gate_dst (N := 2) rfl ?_); refine box_event ?hg (N := 2) ?hd (cs := #[.slice none 0 0, .int .i64 0, .int .i64 0]) (t := 24) ?hr ?_; (case hd => rfl); (case hg => rfl); (case hr => (go_simp; done)); intro gb128 hg w4 hbox hb; have n2_ := Aside0.mk (hbox); have n3_ := Aside0.mk ((by rw [hg]; exact (below_size HB.out) : w.heap.size ≤ gb128)); have n4_ := Aside0.mk ((by rw [hg]; exact (below_size HB.out) : w.heap.size ≤ gb128)); have n5_ := Aside0.mk ((by rw [hg]; exact Nat.ne_of_lt (blk_lt BK127.out) : gb127 ≠ gb128)); have n6_ := Aside0.mk ((by rw [hg]; exact Nat.ne_of_gt (blk_lt BK127.out) : gb128 ≠ gb127)); have BK128 := n2_; have GW128 := n3_; have GE128 := n4_; have NB127_128 := n5_; have NB128_127 := n6_; clear n2_ n3_ n4_ n5_ n6_; replace BK127 := kb_ BK127 hb; replace HB := hb_ HB hb; clear hb hbox hg) | ((with_reducible refine gate_dst (N := 3) rfl ?_); refine Kd.R_lit (Kd.int .i64) _ 3 ?hg (N := 3) ?hd (xs := ([] : List Int)) (inner := []) (ok := fun _ => True) (okp := fun _ => True) ?hr ?hp (fun _ hk => hk) trivial (Below.refl _ _) (Nat.le_refl _) (by simp) ?_; (case hd => rfl); (case hg => rfl); (case hr => (go_simp; done)); (case hp => exact (Reps.none _ _)); intro v130 w5 ho6 hb hg_ hnew_; clear hg_ hnew_; ((rw [← Ny129.out] at ho6)); have n0_ := Aside0.mk (Kd.R_lower ho6 (below_size HB.out)); have HO131 := n0_; clear n0_; replace BK127 := kb_ BK127 hb; replace BK128 := kb_ BK128 hb; replace HB := hb_ HB hb; clear hb ho6; have hnb7 := NB127_128.out; have hnc7 := NB128_127.out; obtain ⟨_, _, _, _, _, _⟩ := bk3_ BK127.out) | ((with_reducible refine gate_builtin (b := .append) (xs := #[.tmp 3, .tmp 5]) rfl ?_); at_builtin; refine Kd.R_append_rows (Kd.int .i64) (w0 := w) w.heap.size rfl (.tmp 3) (.tmp 5) 22 3 (.int .i64 0) 8 rfl Try.underlying22 info3 rfl (by decide) (by omega) v130 y129 l0_0 _ _ _ (fun _ => True) (fun _ => False) rfl rfl ?aO ?aR (fun _ _ h => h) (fun _ h => h.elim) ?aF ?aB ?aS ?aL ?_; (case aR => repeat ((exact (Kd.C_below HR0_0.out HB.out)))); (case aB => exact HB.out); (case aF => exact (fun _ _ => trivial)); (case aO => exact HO131.out); (case aS => exact (below_size HB.out)); (case aL => have := LMc2.out; omega); intro v133 w9 ho hb hg hat; rw [← Ny132.out] at ho; have n0_ := Aside0.mk (blk_grown BK127.out hg (Kd.R_ne HO131.out BK127.out (by decide))); have n1_ := Aside0.mk (blk_grown BK128.out hg (Kd.R_ne HO131.out BK128.out (by decide))); have n2_ := Aside0.mk (hb); have n3_ := Aside0.mk (ho); clear BK127 BK128 HB HO131; have BK127 := n0_; have BK128 := n1_; have HB := n2_; have HO134 := n3_; clear n0_ n1_ n2_ n3_; clear ho hb hg hat; obtain ⟨Ao10, co10, eo10⟩ := Kd.R_slice HO134.out; subst eo10; obtain ⟨_, _, _, _, _, _⟩ := bk3_ BK127.out; obtain ⟨_, _, _, _, _, _⟩ := bk3_ BK128.out))
    refine bodyPost_ret (results_cell_row rfl _ _ gb128 24 #[.slice Ao10 y132.length co10, .int .i64 a0_1, .int .i64 a0_2] (0, 0) _ rfl (by refine blk_put (cs := #[.slice Ao10 y132.length co10, .int .i64 a0_1, .int .i64 0]) ?_ 2 _ rfl; refine blk_put (cs := #[.slice Ao10 y132.length co10, .int .i64 0, .int .i64 0]) ?_ 1 _ rfl; refine blk_put (cs := #[.slice none 0 0, .int .i64 0, .int .i64 0]) ?_ 0 _ rfl; refine blk_far ?_ NB128_127.out _; exact BK128.out) Try.underlying24 rfl (by kernel_rfl)) rfl ?_
    exact ⟨_, by rfl, by exact Kd.R_mono (Kd.R_far (p := ⟨gb128, 2, none⟩) (Kd.R_far (p := ⟨gb128, 1, none⟩) (Kd.R_far (p := ⟨gb128, 0, none⟩) (Kd.R_far (p := ⟨gb127, 0, none⟩) (Kd.R_types (Kd.R_types HO134.out BK127.out (by decide)) BK128.out (by decide)) (fun _ hk => hk.1.2) (.slice Ao10 y132.length co10)) (fun _ hk => hk.2) (.slice Ao10 y132.length co10)) (fun _ hk => hk.2) (.int .i64 a0_1)) (fun _ hk => hk.2) (.int .i64 a0_2)) (fun _ hk => trivial), by repeat ((with_reducible first | exact HB.out | refine below_set ?_ GE127.out | refine below_set ?_ GE128.out))⟩
  · rw [if_neg c2] at H
    exact absurd H (by simp)

/-! ### ring_Push: function 21 -/
def ring_Push.f (l0_0 : List Int) (a0_1 : Int) (a0_2 : Int) (a1 : Int) : Option (List Int × Int × Int × Int) := (ring_Right.f l0_0 a0_1 a0_2).bind fun t137 => (if t137 = true then (if a0_2 = (l0_0.length : Int) then (some (l0_0, a0_1, a0_2, 3)) else ((ring_own.f l0_0 a0_1 a0_2).bind fun bt138 => ((ring_at.f bt138.1 bt138.2.1 bt138.2.2 bt138.2.2).bind fun t143 => (if 0 ≤ t143 then (if t143 < (bt138.1.length : Int) then (some ((bt138.1.set (t143 : Int).toNat a1), bt138.2.1, wrap64 (bt138.2.2 + 1), 0)) else (none)) else (none))))) else (some (l0_0, a0_1, a0_2, 1)))
def ring_Push.T6 : Bool × List (List Nat × List Nat) := (true, [([], []), ([0], [0]), ([], []), ([], []), ([3], [3]), ([2, 4], [2, 4]), ([], []), ([1, 5, 0, 1, 2, 3, 4, 5, 6], [1, 5]), ([7, 6, 5, 0, 1, 2, 3, 4, 5, 6], [6, 7])])
def ring_Push.B6 : List Nat := [0, 1, 0, 0, 8, 28, 0, 127, 255]
theorem ring_Push.tab6 : rtab .any (opsOf Try.f21 6) = ring_Push.T6 := by kernel_rfl
theorem ring_Push.bits6 : waitsOk ring_Push.T6.2 ring_Push.B6 = true := by kernel_rfl
set_option maxHeartbeats 8000000 in
set_option maxRecDepth 100000 in
theorem ring_Push.calls (P0_0_ : Nat → Prop) (A0_0 : Option Addr) (c0_0 : Nat) (l0_0 : List Int) (a0_1 : Int) (a0_2 : Int) (a1 : Int) (r1 : List Int) (r2 : Int) (r3 : Int) (r4 : Int) (w : World) (hs0_0 : Kd.V (Kd.int .i64) 3 w w.heap.size (fun k_ => P0_0_ k_) (.slice A0_0 l0_0.length c0_0) l0_0) (h : ring_Push.f l0_0 a0_1 a0_2 a1 = some (r1, r2, r3, r4)) :
    Calls Try.prog 21 #[.agg #[.slice A0_0 l0_0.length c0_0, .int .i64 a0_1, .int .i64 a0_2], .int .i64 a1] w fun e w' => ∃ v0_ : Value, e = .returned (.tuple #[.agg #[v0_, .int .i64 r2, .int .i64 r3], .int .i64 r4]) ∧ Kd.V (Kd.int .i64) 3 w' w.heap.size (fun k_ => (P0_0_ k_ ∨ w.heap.size ≤ k_)) v0_ r1 ∧ Below w.heap.size w w' := by
  have hu24 := Try.underlying24
  have HO0_0 := Aside0.mk (show Kd.V (Kd.int .i64) 3 w w.heap.size (fun k_ => (P0_0_ k_ ∨ w.heap.size ≤ k_)) (.slice A0_0 l0_0.length c0_0) l0_0 from Kd.V_mono hs0_0 (fun k_ hk => .inl hk))
  have HB := Aside0.mk (Below.refl w.heap.size w)
  have H : ((ring_Right.f l0_0 a0_1 a0_2).bind fun t137 => (if t137 = true then (if a0_2 = (l0_0.length : Int) then (some (l0_0, a0_1, a0_2, 3)) else ((ring_own.f l0_0 a0_1 a0_2).bind fun bt138 => ((ring_at.f bt138.1 bt138.2.1 bt138.2.2 bt138.2.2).bind fun t143 => (if 0 ≤ t143 then (if t143 < (bt138.1.length : Int) then (some ((bt138.1.set (t143 : Int).toNat a1), bt138.2.1, wrap64 (bt138.2.2 + 1), 0)) else (none)) else (none))))) else (some (l0_0, a0_1, a0_2, 1)))) = some (r1, r2, r3, r4) := h
  clear h
  replace H := Option.bind_eq_some_iff.mp H
  obtain ⟨t137, A30, H⟩ := H
  replace H : (if t137 = true then (if a0_2 = (l0_0.length : Int) then (some (l0_0, a0_1, a0_2, 3)) else ((ring_own.f l0_0 a0_1 a0_2).bind fun bt138 => ((ring_at.f bt138.1 bt138.2.1 bt138.2.2 bt138.2.2).bind fun t143 => (if 0 ≤ t143 then (if t143 < (bt138.1.length : Int) then (some ((bt138.1.set (t143 : Int).toNat a1), bt138.2.1, wrap64 (bt138.2.2 + 1), 0)) else (none)) else (none))))) else (some (l0_0, a0_1, a0_2, 1))) = some (r1, r2, r3, r4) := H
  have A3 := Aside0.mk A30
  clear A30
  by_cases c4 : t137 = true
  · subst c4
    have H1 : (if a0_2 = (l0_0.length : Int) then (some (l0_0, a0_1, a0_2, 3)) else ((ring_own.f l0_0 a0_1 a0_2).bind fun bt138 => ((ring_at.f bt138.1 bt138.2.1 bt138.2.2 bt138.2.2).bind fun t143 => (if 0 ≤ t143 then (if t143 < (bt138.1.length : Int) then (some ((bt138.1.set (t143 : Int).toNat a1), bt138.2.1, wrap64 (bt138.2.2 + 1), 0)) else (none)) else (none))))) = some (r1, r2, r3, r4) := by rw [if_pos rfl] at H; exact H
    clear H
    have H := H1
    clear H1
    by_cases c5 : a0_2 = (l0_0.length : Int)
    · rw [if_pos c5] at H
      have c5b0 : (a0_2 == (l0_0.length : Int)) = true := beq_iff_eq.mpr c5
      have c5b1 : (a0_2 != (l0_0.length : Int)) = false := bne_eq_false_iff_eq.mpr c5
      clear c5
      simp only [Option.some.injEq, Prod.mk.injEq] at H
      obtain ⟨rfl, rfl, rfl, rfl⟩ := H
      go_enter Try.func21, Try.ntmps21
      go_wp2_with (first | ((with_reducible refine gate_dst (N := 2) rfl ?_); refine box_event ?hg (N := 2) ?hd (cs := #[.slice A0_0 l0_0.length c0_0, .int .i64 a0_1, .int .i64 a0_2]) (t := 24) ?hr ?_; (case hd => rfl); (case hg => rfl); (case hr => (go_simp; done)); intro gb135 hg w6 hbox hb; have n0_ := Aside0.mk (Kd.V_below (Kd.V_elderB HO0_0.out gb135 (Nat.le_of_eq hg.symm)) hb); have n2_ := Aside0.mk (hbox); have n3_ := Aside0.mk ((by rw [hg]; exact (below_size HB.out) : w.heap.size ≤ gb135)); have n4_ := Aside0.mk ((by rw [hg]; exact (below_size HB.out) : w.heap.size ≤ gb135)); clear HO0_0; have HO0_0 := n0_; have BK135 := n2_; have GW135 := n3_; have GE135 := n4_; clear n0_ n2_ n3_ n4_; replace HB := hb_ HB hb; clear hb hbox hg) | ((with_reducible refine gate_dst (N := 4) rfl ?_); refine box_event ?hg (N := 4) ?hd (cs := #[.slice none 0 0, .int .i64 0, .int .i64 0]) (t := 24) ?hr ?_; (case hd => rfl); (case hg => rfl); (case hr => (go_simp; done)); intro gb136 hg w7 hbox hb; have n0_ := Aside0.mk (Kd.V_below (Kd.V_elderB HO0_0.out gb136 (Nat.le_of_eq hg.symm)) hb); have n3_ := Aside0.mk (hbox); have n4_ := Aside0.mk ((by rw [hg]; exact (below_size HB.out) : w.heap.size ≤ gb136)); have n5_ := Aside0.mk ((by rw [hg]; exact (below_size HB.out) : w.heap.size ≤ gb136)); have n6_ := Aside0.mk ((by rw [hg]; exact Nat.ne_of_lt (blk_lt BK135.out) : gb135 ≠ gb136)); have n7_ := Aside0.mk ((by rw [hg]; exact Nat.ne_of_gt (blk_lt BK135.out) : gb136 ≠ gb135)); clear HO0_0; have HO0_0 := n0_; have BK136 := n3_; have GW136 := n4_; have GE136 := n5_; have NB135_136 := n6_; have NB136_135 := n7_; clear n0_ n3_ n4_ n5_ n6_ n7_; replace BK135 := kb_ BK135 hb; replace HB := hb_ HB hb; clear hb hbox hg; have hnb8 := NB135_136.out; have hnc8 := NB136_135.out; obtain ⟨_, _, _, _, _, _⟩ := bk3_ BK135.out) | ((with_reducible refine gate_callee (f := 17) rfl ?_); refine goesL_ (some 8) rfl rfl Try.func17 (by kernel_rfl) rfl #[.agg #[.slice A0_0 l0_0.length c0_0, .int .i64 a0_1, .int .i64 a0_2]] rfl (by (try simp only [List.map_toArray, List.map_cons, List.map_nil]); rfl) ?_; (with_reducible refine (ring_Right.calls _ _ l0_0 a0_1 a0_2 true _ ?side1 ?side2 A3.out).mono ?_); (case side1 => repeat ((exact (Kd.V_reads' HO0_0.out).2.2))); (case side2 => exact (Kd.V_reads' HO0_0.out).2.1); rintro e w10 ⟨rfl, hb⟩; refine ⟨_, rfl, ?_⟩; replace HO0_0 := vb_ HO0_0 hb; replace BK135 := kb_ BK135 hb; replace BK136 := kb_ BK136 hb; replace HB := hb_ HB hb; (try clear hb); (try clear hb2); (try clear hk); (try clear hi); obtain ⟨_, _, _, _, _, _⟩ := bk3_ BK135.out; obtain ⟨_, _, _, _, _, _⟩ := bk3_ BK136.out))
      refine bodyPost_ret (results_ct rfl _ _ gb136 24 #[.slice A0_0 l0_0.length c0_0, .int .i64 a0_1, .int .i64 a0_2] (0, 0) _ rfl (by exact bp3_ BK136.out) Try.underlying24 rfl (by kernel_rfl)) rfl ?_
      exact ⟨_, by rfl, by exact Kd.V_mono (vf3_ (Kd.V_mono HO0_0.out (fun k_ hk => (⟨hk, hk.2⟩ : _ ∧ k_ ≠ gb136))) (fun _ hk => hk.2)) (fun _ hk => hk.1.1.1), by repeat ((with_reducible first | exact HB.out | refine below_set ?_ GE136.out))⟩
    · rw [if_neg c5] at H
      have c5b0 : (a0_2 == (l0_0.length : Int)) = false := beq_eq_false_iff_ne.mpr c5
      have c5b1 : (a0_2 != (l0_0.length : Int)) = true := bne_iff_ne.mpr c5
      replace H := Option.bind_eq_some_iff.mp H
      obtain ⟨⟨t138, t141, t142⟩, A130, H⟩ := H
      replace H : ((ring_at.f t138 t141 t142 t142).bind fun t143 => (if 0 ≤ t143 then (if t143 < (t138.length : Int) then (some ((t138.set (t143 : Int).toNat a1), t141, wrap64 (t142 + 1), 0)) else (none)) else (none))) = some (r1, r2, r3, r4) := H
      have A13 := Aside0.mk A130
      clear A130
      replace H := Option.bind_eq_some_iff.mp H
      obtain ⟨t143, A140, H⟩ := H
      replace H : (if 0 ≤ t143 then (if t143 < (t138.length : Int) then (some ((t138.set (t143 : Int).toNat a1), t141, wrap64 (t142 + 1), 0)) else (none)) else (none)) = some (r1, r2, r3, r4) := H
      have A14 := Aside0.mk A140
      clear A140
      by_cases c15 : 0 ≤ t143
      · rw [if_pos c15] at H
        have c15b0 : decide (0 ≤ t143) = true := decide_eq_true c15
        clear c15
        by_cases c16 : t143 < (t138.length : Int)
        · rw [if_pos c16] at H
          have c16b0 : decide (t143 < (t138.length : Int)) = true := decide_eq_true c16
          clear c16
          obtain ⟨y144, hy144⟩ : ∃ y_ : List Int, y_ = (t138.set (t143 : Int).toNat a1) := ⟨_, rfl⟩
          replace H : (some (y144, t141, wrap64 (t142 + 1), 0)) = some (r1, r2, r3, r4) := by (rw [hy144]; with_reducible exact H)
          have Ny144 := Aside0.mk hy144
          clear hy144
          simp only [Option.some.injEq, Prod.mk.injEq] at H
          obtain ⟨rfl, rfl, rfl, rfl⟩ := H
          go_enter Try.func21, Try.ntmps21
          try go_wp2_with (first | ((with_reducible refine gate_dst (N := 2) rfl ?_); refine box_event ?hg (N := 2) ?hd (cs := #[.slice A0_0 l0_0.length c0_0, .int .i64 a0_1, .int .i64 a0_2]) (t := 24) ?hr ?_; (case hd => rfl); (case hg => rfl); (case hr => (go_simp; done)); intro gb135 hg w18 hbox hb; have n0_ := Aside0.mk (Kd.V_below (Kd.V_elderB HO0_0.out gb135 (Nat.le_of_eq hg.symm)) hb); have n2_ := Aside0.mk (hbox); have n3_ := Aside0.mk ((by rw [hg]; exact (below_size HB.out) : w.heap.size ≤ gb135)); have n4_ := Aside0.mk ((by rw [hg]; exact (below_size HB.out) : w.heap.size ≤ gb135)); clear HO0_0; have HO0_0 := n0_; have BK135 := n2_; have GW135 := n3_; have GE135 := n4_; clear n0_ n2_ n3_ n4_; replace HB := hb_ HB hb; clear hb hbox hg) | ((with_reducible refine gate_dst (N := 4) rfl ?_); refine box_event ?hg (N := 4) ?hd (cs := #[.slice none 0 0, .int .i64 0, .int .i64 0]) (t := 24) ?hr ?_; (case hd => rfl); (case hg => rfl); (case hr => (go_simp; done)); intro gb136 hg w19 hbox hb; have n0_ := Aside0.mk (Kd.V_below (Kd.V_elderB HO0_0.out gb136 (Nat.le_of_eq hg.symm)) hb); have n3_ := Aside0.mk (hbox); have n4_ := Aside0.mk ((by rw [hg]; exact (below_size HB.out) : w.heap.size ≤ gb136)); have n5_ := Aside0.mk ((by rw [hg]; exact (below_size HB.out) : w.heap.size ≤ gb136)); have n6_ := Aside0.mk ((by rw [hg]; exact Nat.ne_of_lt (blk_lt BK135.out) : gb135 ≠ gb136)); have n7_ := Aside0.mk ((by rw [hg]; exact Nat.ne_of_gt (blk_lt BK135.out) : gb136 ≠ gb135)); clear HO0_0; have HO0_0 := n0_; have BK136 := n3_; have GW136 := n4_; have GE136 := n5_; have NB135_136 := n6_; have NB136_135 := n7_; clear n0_ n3_ n4_ n5_ n6_ n7_; replace BK135 := kb_ BK135 hb; replace HB := hb_ HB hb; clear hb hbox hg; have hnb20 := NB135_136.out; have hnc20 := NB136_135.out; obtain ⟨_, _, _, _, _, _⟩ := bk3_ BK135.out) | ((with_reducible refine gate_callee (f := 17) rfl ?_); refine goesL_ (some 8) rfl rfl Try.func17 (by kernel_rfl) rfl #[.agg #[.slice A0_0 l0_0.length c0_0, .int .i64 a0_1, .int .i64 a0_2]] rfl (by (try simp only [List.map_toArray, List.map_cons, List.map_nil]); rfl) ?_; (with_reducible refine (ring_Right.calls _ _ l0_0 a0_1 a0_2 true _ ?side1 ?side2 A3.out).mono ?_); (case side1 => repeat ((exact (Kd.V_reads' HO0_0.out).2.2))); (case side2 => exact (Kd.V_reads' HO0_0.out).2.1); rintro e w22 ⟨rfl, hb⟩; refine ⟨_, rfl, ?_⟩; replace HO0_0 := vb_ HO0_0 hb; replace BK135 := kb_ BK135 hb; replace BK136 := kb_ BK136 hb; replace HB := hb_ HB hb; (try clear hb); (try clear hb2); (try clear hk); (try clear hi); obtain ⟨_, _, _, _, _, _⟩ := bk3_ BK135.out) | ((with_reducible refine gate_callee (f := 42) rfl ?_); refine goesL_ (some 20) rfl rfl Try.func42 (by kernel_rfl) rfl #[.agg #[.slice A0_0 l0_0.length c0_0, .int .i64 a0_1, .int .i64 a0_2]] rfl (by (try simp only [List.map_toArray, List.map_cons, List.map_nil]); rfl) ?_; (with_reducible refine (ring_own.calls _ _ l0_0 a0_1 a0_2 t138 t141 t142 _ ?side1 ?side2 A13.out).mono ?_); (case side1 => repeat ((exact (Kd.V_reads' HO0_0.out).2.2))); (case side2 => exact (Kd.V_reads' HO0_0.out).2.1); rintro e w24 ⟨v139, rfl, ho0, hb⟩; refine ⟨_, rfl, ?_⟩; have n0_ := Aside0.mk (Kd.V_elder' HO0_0.out (Kd.R_base ho0) hb); have n1_ := Aside0.mk (Kd.R_lower (Kd.R_newM (M := fun k_ => (w.heap.size ≤ k_)) ho0 (below_size HB.out) (fun k_ h_ => h_)) (below_size HB.out)); clear HO0_0; have HO0_0 := n0_; have HO140 := n1_; clear n0_ n1_; replace BK135 := kb_ BK135 hb; replace BK136 := kb_ BK136 hb; replace HB := hb_ HB hb; (try clear hb); (try clear hb2); (try clear hk); (try clear hi); (try clear ho0); obtain ⟨Ao25, co25, eo25⟩ := Kd.R_slice HO140.out; subst eo25; obtain ⟨_, _, _, _, _, _⟩ := bk3_ BK135.out))
          have n0_ : Aside0 (Kd.V (Kd.int .i64) 3 (((w24.setCell ⟨gb135, 0, none⟩ (.slice Ao25 t138.length co25)).setCell ⟨gb135, 1, none⟩ (.int .i64 t141)).setCell ⟨gb135, 2, none⟩ (.int .i64 t142)) w.heap.size (fun k_ => (P0_0_ k_ ∨ w.heap.size ≤ k_) ∧ some k_ ≠ (.slice Ao25 t138.length co25 : Value).ownBlock ∧ k_ ≠ gb135 ∧ k_ ≠ gb136) (.slice A0_0 l0_0.length c0_0) l0_0) := ⟨by exact Kd.V_mono (vf3_ (Kd.V_mono HO0_0.out (fun k_ hk => (⟨hk, hk.1.1.2⟩ : _ ∧ k_ ≠ gb135))) (fun _ hk => hk.2)) (fun _ hk => ⟨hk.1.1.1.1, ⟨hk.1.2, ⟨hk.1.1.1.2, hk.1.1.2⟩⟩⟩)⟩
          have n1_ : Aside0 (Kd.R (Kd.int .i64) 3 (((w24.setCell ⟨gb135, 0, none⟩ (.slice Ao25 t138.length co25)).setCell ⟨gb135, 1, none⟩ (.int .i64 t141)).setCell ⟨gb135, 2, none⟩ (.int .i64 t142)) w.heap.size (fun k_ => (w.heap.size ≤ k_)) (.slice Ao25 t138.length co25) t138) := ⟨by exact Kd.R_mono (Kd.R_far (p := ⟨gb135, 2, none⟩) (Kd.R_far (p := ⟨gb135, 1, none⟩) (Kd.R_far (p := ⟨gb135, 0, none⟩) (Kd.R_types HO140.out BK135.out (by decide)) (fun _ hk => hk.2) (.slice Ao25 t138.length co25)) (fun _ hk => hk.2) (.int .i64 t141)) (fun _ hk => hk.2) (.int .i64 t142)) (fun _ hk => hk.1.1)⟩
          have n2_ : Aside0 ((((w24.setCell ⟨gb135, 0, none⟩ (.slice Ao25 t138.length co25)).setCell ⟨gb135, 1, none⟩ (.int .i64 t141)).setCell ⟨gb135, 2, none⟩ (.int .i64 t142)).heap[gb135]? = some (.cells #[.slice Ao25 t138.length co25, .int .i64 t141, .int .i64 t142] 24 (0, 0))) := ⟨by exact bp3_ BK135.out⟩
          have n3_ : Aside0 ((((w24.setCell ⟨gb135, 0, none⟩ (.slice Ao25 t138.length co25)).setCell ⟨gb135, 1, none⟩ (.int .i64 t141)).setCell ⟨gb135, 2, none⟩ (.int .i64 t142)).heap[gb136]? = some (.cells #[.slice none 0 0, .int .i64 0, .int .i64 0] 24 (0, 0))) := ⟨by refine blk_far ?_ NB136_135.out _; refine blk_far ?_ NB136_135.out _; refine blk_far ?_ NB136_135.out _; exact BK136.out⟩
          have n4_ : Aside0 (Below w.heap.size w (((w24.setCell ⟨gb135, 0, none⟩ (.slice Ao25 t138.length co25)).setCell ⟨gb135, 1, none⟩ (.int .i64 t141)).setCell ⟨gb135, 2, none⟩ (.int .i64 t142))) := ⟨by repeat ((with_reducible first | exact HB.out | refine below_set ?_ GE135.out))⟩
          (try clear HO0_0)
          (try clear HO140)
          (try clear BK135)
          (try clear BK136)
          (try clear HB)
          generalize (((w24.setCell ⟨gb135, 0, none⟩ (.slice Ao25 t138.length co25)).setCell ⟨gb135, 1, none⟩ (.int .i64 t141)).setCell ⟨gb135, 2, none⟩ (.int .i64 t142)) = w27 at n0_ n1_ n2_ n3_ n4_ ⊢
          have HO0_0 := n0_
          have HO140 := n1_
          have BK135 := n2_
          have BK136 := n3_
          have HB := n4_
          clear n0_ n1_ n2_ n3_ n4_
          have n0_ := Aside0.mk (Kd.V_drew HO0_0.out)
          have n1_ := Aside0.mk (Kd.R_drew HO140.out)
          have n2_ := Aside0.mk (blk_drew BK135.out)
          have n3_ := Aside0.mk (blk_drew BK136.out)
          have n4_ := Aside0.mk (below_drew1 HB.out)
          clear HO0_0 HO140 BK135 BK136 HB; have HO0_0 := n0_; have HO140 := n1_; have BK135 := n2_; have BK136 := n3_; have HB := n4_; clear n0_ n1_ n2_ n3_ n4_
          refine start_ (n := 9) (S := fun w' => w'.cell? ⟨gb135, 0, none⟩ = some (.slice Ao25 t138.length co25) ∧ w'.cell? ⟨gb135, 1, none⟩ = some (.int .i64 t141) ∧ w'.cell? ⟨gb135, 2, none⟩ = some (.int .i64 t142)) (ds := [8]) #[false, false, false, false, false, false, false, false, false] (by kernel_rfl) rfl rfl (bh3_ BK135.out) (fun hHeld => ?_); refine with_tabW ring_Push.tab6 ring_Push.bits6 (fun HT_ HW_ => ?_)
          generalize w27.drew = w28 at HO0_0 HO140 BK135 BK136 HB hHeld ⊢
          refine pa_ 0 21 (bm 9 0x1) HT_ (h := ?_)
          refine pa_ 3 24 (bm 9 0x9) HT_ (h := ?_)
          refine pa_ 6 27 (bm 9 0x49) HT_ (h := ?_)
          refine take_ (i := 1) (N := some 22) (v := ?_) (a' := ?_) (bm 9 0x4b) rfl rfl (take_ofW HT_.out HW_.out (by kernel_rfl)) (fun _ _ _ h => h) (Or.inl ⟨by rfl, ?_⟩) hHeld ?_ ?_
          rotate_left
          · rintro w' ⟨s0, s1, s2⟩
            go_simp
            with_reducible rfl
          rotate_left
          · simp only [Act.put, List.setIfInBounds_toArray, List.set_cons_zero, List.set_cons_succ, i64_w, i32_w]
            rfl
          refine take_ (i := 2) (N := some 23) (v := ?_) (a' := ?_) (bm 9 0x4f) rfl rfl (take_ofW HT_.out HW_.out (by kernel_rfl)) (fun _ _ _ h => h) (Or.inl ⟨by rfl, ?_⟩) hHeld ?_ ?_
          rotate_left
          · rintro w' ⟨s0, s1, s2⟩
            go_simp
            with_reducible rfl
          rotate_left
          · simp only [Act.put, List.setIfInBounds_toArray, List.set_cons_zero, List.set_cons_succ, i64_w, i32_w]
            rfl
          refine take_ (i := 4) (N := some 25) (v := ?_) (a' := ?_) (bm 9 0x5f) rfl rfl (take_ofW HT_.out HW_.out (by kernel_rfl)) (fun _ _ _ h => h) (Or.inl ⟨by rfl, ?_⟩) hHeld ?_ ?_
          rotate_left
          · rintro w' ⟨s0, s1, s2⟩
            go_simp
            with_reducible rfl
          rotate_left
          · simp only [Act.put, List.setIfInBounds_toArray, List.set_cons_zero, List.set_cons_succ, i64_w, i32_w]
            rfl
          refine one_ (i := 5) (N := some 26) (bm 9 0x7f) rfl rfl (one_of HT_.out (by kernel_rfl)) (by decide) (fun K hK => ?_)
          refine goes_ Try.func41 (by kernel_rfl) rfl #[.agg #[.slice Ao25 t138.length co25, .int .i64 t141, .int .i64 t142], .int .i64 t142] (by rfl) rfl rfl (by (try simp only [List.map_toArray, List.map_cons, List.map_nil]); rfl) ?_
          with_reducible refine (ring_at.calls _ _ t138 t141 t142 t142 t143 _ ?side1 ?side2 A14.out).mono ?_
          (case side1 => repeat ((exact (Kd.R_reads' HO140.out).2.2)))
          (case side2 => exact (Kd.R_reads' HO140.out).2.1)
          rintro e w29 ⟨rfl, hb⟩
          refine ⟨_, rfl, ?_⟩
          replace HO0_0 := vb_ HO0_0 hb; replace HO140 := rb_ HO140 hb; replace BK135 := kb_ BK135 hb; replace BK136 := kb_ BK136 hb; replace HB := hb_ HB hb
          (try clear hb)
          (try clear hb2)
          (try clear hk)
          (try clear hi)
          have p17 : 0 ≤ (t143 : Int) := of_decide_eq_true (by (with_reducible assumption))
          have q17 : (t143 : Int) < ((t138.length : Int) : Int) := of_decide_eq_true (by (with_reducible assumption))
          obtain ⟨go17, co17, eo17, gb17, gl17, cl17, HG17⟩ := Kd.R_form HO140.out (by omega)
          ((cases eo17))
          have GB17 := Aside0.mk gb17
          have GG17 := Aside0.mk HG17
          clear gb17 gl17 HG17
          obtain ⟨hx17_0, hf17_0⟩ := Kd.R_celln 0 HO140.out (t143 : Int) p17 q17
          replace p17 := eq_true p17
          replace q17 := eq_true q17
          have HP30 := Kd.R_putn HO140.out (t143 : Int) a1
          rw [← Ny144.out] at HP30
          have HQ30 := Aside0.mk HP30
          clear HP30
          refine hK.out _ _ (bh3_ BK135.out) (fun hHeld => ?_)
          clear hK K
          refine nm_ 26 (h := ?_)
          refine pa_ 7 28 (bm 9 0xff) HT_ (h := ?_)
          refine last_ (i := 8) (N := none) (bm 9 0x1ff) rfl rfl (one_of HT_.out (by kernel_rfl)) (by decide) (fun K hK => ?_)
          refine skip_ (w1 := ?_) (by rfl) rfl ?_ ?_
          rotate_left
          · go_simp
            rfl
          refine hK.out _ _ ?_
          clear hK K
          refine done_ (done_of HT_.out (by kernel_rfl)) ?_
          have n0_ : Aside0 (Kd.V (Kd.int .i64) 3 (w29.setCell ⟨go17, (t143 : Int).toNat, none⟩ (.int .i64 a1)) w.heap.size (fun k_ => (P0_0_ k_ ∨ w.heap.size ≤ k_) ∧ some k_ ≠ (.slice (some ⟨go17, 0, none⟩) t138.length co25 : Value).ownBlock ∧ k_ ≠ gb135 ∧ k_ ≠ gb136) (.slice A0_0 l0_0.length c0_0) l0_0) := ⟨by exact Kd.V_mono (Kd.V_far (p := ⟨go17, (t143 : Int).toNat, none⟩) (Kd.V_mono HO0_0.out (fun k_ hk => (⟨hk, fun e_ => hk.2.1 (by rw [e_]; rfl)⟩ : _ ∧ k_ ≠ go17))) (fun _ hk => hk.2) (.int .i64 a1)) (fun _ hk => ⟨hk.1.1, ⟨hk.1.2.1, ⟨hk.1.2.2.1, hk.1.2.2.2⟩⟩⟩)⟩
          have n1_ : Aside0 (Kd.R (Kd.int .i64) 3 (w29.setCell ⟨go17, (t143 : Int).toNat, none⟩ (.int .i64 a1)) w.heap.size (fun k_ => (w.heap.size ≤ k_)) (.slice (some ⟨go17, 0, none⟩) t138.length co25) y144) := ⟨HQ30.out⟩
          have n2_ : Aside0 ((w29.setCell ⟨go17, (t143 : Int).toNat, none⟩ (.int .i64 a1)).heap[gb135]? = some (.cells #[.slice (some ⟨go17, 0, none⟩) t138.length co25, .int .i64 t141, .int .i64 t142] 24 (0, 0))) := ⟨by refine blk_far ?_ (by have h_ := Kd.R_ne HO140.out BK135.out (by decide); intro e_; exact h_ (by rw [e_]; rfl)) _; exact BK135.out⟩
          have n3_ : Aside0 ((w29.setCell ⟨go17, (t143 : Int).toNat, none⟩ (.int .i64 a1)).heap[gb136]? = some (.cells #[.slice none 0 0, .int .i64 0, .int .i64 0] 24 (0, 0))) := ⟨by refine blk_far ?_ (by have h_ := Kd.R_ne HO140.out BK136.out (by decide); intro e_; exact h_ (by rw [e_]; rfl)) _; exact BK136.out⟩
          have n4_ : Aside0 (Below w.heap.size w (w29.setCell ⟨go17, (t143 : Int).toNat, none⟩ (.int .i64 a1))) := ⟨by repeat ((with_reducible first | exact HB.out | refine below_set ?_ GB17.out))⟩
          (try clear HO0_0)
          (try clear HO140)
          (try clear BK135)
          (try clear BK136)
          (try clear HB)
          generalize (w29.setCell ⟨go17, (t143 : Int).toNat, none⟩ (.int .i64 a1)) = w31 at n0_ n1_ n2_ n3_ n4_ ⊢
          have HO0_0 := n0_
          have HO140 := n1_
          have BK135 := n2_
          have BK136 := n3_
          have HB := n4_
          clear n0_ n1_ n2_ n3_ n4_
          obtain ⟨_, _, _, _, _, _⟩ := bk3_ BK135.out
          obtain ⟨_, _, _, _, _, _⟩ := bk3_ BK136.out
          try go_wp2
          refine bodyPost_ret (results_ct rfl _ _ gb136 24 #[.slice (some ⟨go17, 0, none⟩) t138.length co25, .int .i64 t141, .int .i64 (wrap64 (t142 + 1))] (0, 0) _ rfl (by refine blk_put (cs := #[.slice (some ⟨go17, 0, none⟩) t138.length co25, .int .i64 t141, .int .i64 0]) ?_ 2 _ rfl; refine blk_put (cs := #[.slice (some ⟨go17, 0, none⟩) t138.length co25, .int .i64 0, .int .i64 0]) ?_ 1 _ rfl; refine blk_put (cs := #[.slice none 0 0, .int .i64 0, .int .i64 0]) ?_ 0 _ rfl; refine blk_far ?_ NB136_135.out _; exact BK136.out) Try.underlying24 rfl (by kernel_rfl)) rfl ?_
          exact ⟨_, by rfl, Kd.V_mono (Kd.R_V (by exact Kd.R_mono (Kd.R_far (p := ⟨gb136, 2, none⟩) (Kd.R_far (p := ⟨gb136, 1, none⟩) (Kd.R_far (p := ⟨gb136, 0, none⟩) (Kd.R_far (p := ⟨gb135, 2, none⟩) (Kd.R_types (Kd.R_types HO140.out BK135.out (by decide)) BK136.out (by decide)) (fun _ hk => hk.1.2) (.int .i64 (wrap64 (t142 + 1)))) (fun _ hk => hk.2) (.slice (some ⟨go17, 0, none⟩) t138.length co25)) (fun _ hk => hk.2) (.int .i64 t141)) (fun _ hk => hk.2) (.int .i64 (wrap64 (t142 + 1)))) (fun _ hk => hk.1.1))) (fun k_ hk => by (exact (.inr (hk)))), by repeat ((with_reducible first | exact HB.out | refine below_set ?_ GE135.out | refine below_set ?_ GE136.out))⟩
        · rw [if_neg c16] at H
          exact absurd H (by simp)
      · rw [if_neg c15] at H
        exact absurd H (by simp)
  · replace c4 := Bool.eq_false_iff.mpr c4
    subst c4
    have H1 : (some (l0_0, a0_1, a0_2, 1)) = some (r1, r2, r3, r4) := by rw [if_neg (show ¬ (false = true) by decide)] at H; exact H
    clear H
    have H := H1
    clear H1
    simp only [Option.some.injEq, Prod.mk.injEq] at H
    obtain ⟨rfl, rfl, rfl, rfl⟩ := H
    go_enter Try.func21, Try.ntmps21
    go_wp2_with (first | ((with_reducible refine gate_dst (N := 2) rfl ?_); refine box_event ?hg (N := 2) ?hd (cs := #[.slice A0_0 l0_0.length c0_0, .int .i64 a0_1, .int .i64 a0_2]) (t := 24) ?hr ?_; (case hd => rfl); (case hg => rfl); (case hr => (go_simp; done)); intro gb135 hg w34 hbox hb; have n0_ := Aside0.mk (Kd.V_below (Kd.V_elderB HO0_0.out gb135 (Nat.le_of_eq hg.symm)) hb); have n2_ := Aside0.mk (hbox); have n3_ := Aside0.mk ((by rw [hg]; exact (below_size HB.out) : w.heap.size ≤ gb135)); have n4_ := Aside0.mk ((by rw [hg]; exact (below_size HB.out) : w.heap.size ≤ gb135)); clear HO0_0; have HO0_0 := n0_; have BK135 := n2_; have GW135 := n3_; have GE135 := n4_; clear n0_ n2_ n3_ n4_; replace HB := hb_ HB hb; clear hb hbox hg) | ((with_reducible refine gate_dst (N := 4) rfl ?_); refine box_event ?hg (N := 4) ?hd (cs := #[.slice none 0 0, .int .i64 0, .int .i64 0]) (t := 24) ?hr ?_; (case hd => rfl); (case hg => rfl); (case hr => (go_simp; done)); intro gb136 hg w35 hbox hb; have n0_ := Aside0.mk (Kd.V_below (Kd.V_elderB HO0_0.out gb136 (Nat.le_of_eq hg.symm)) hb); have n3_ := Aside0.mk (hbox); have n4_ := Aside0.mk ((by rw [hg]; exact (below_size HB.out) : w.heap.size ≤ gb136)); have n5_ := Aside0.mk ((by rw [hg]; exact (below_size HB.out) : w.heap.size ≤ gb136)); have n6_ := Aside0.mk ((by rw [hg]; exact Nat.ne_of_lt (blk_lt BK135.out) : gb135 ≠ gb136)); have n7_ := Aside0.mk ((by rw [hg]; exact Nat.ne_of_gt (blk_lt BK135.out) : gb136 ≠ gb135)); clear HO0_0; have HO0_0 := n0_; have BK136 := n3_; have GW136 := n4_; have GE136 := n5_; have NB135_136 := n6_; have NB136_135 := n7_; clear n0_ n3_ n4_ n5_ n6_ n7_; replace BK135 := kb_ BK135 hb; replace HB := hb_ HB hb; clear hb hbox hg; have hnb36 := NB135_136.out; have hnc36 := NB136_135.out; obtain ⟨_, _, _, _, _, _⟩ := bk3_ BK135.out) | ((with_reducible refine gate_callee (f := 17) rfl ?_); refine goesL_ (some 8) rfl rfl Try.func17 (by kernel_rfl) rfl #[.agg #[.slice A0_0 l0_0.length c0_0, .int .i64 a0_1, .int .i64 a0_2]] rfl (by (try simp only [List.map_toArray, List.map_cons, List.map_nil]); rfl) ?_; (with_reducible refine (ring_Right.calls _ _ l0_0 a0_1 a0_2 false _ ?side1 ?side2 A3.out).mono ?_); (case side1 => repeat ((exact (Kd.V_reads' HO0_0.out).2.2))); (case side2 => exact (Kd.V_reads' HO0_0.out).2.1); rintro e w38 ⟨rfl, hb⟩; refine ⟨_, rfl, ?_⟩; replace HO0_0 := vb_ HO0_0 hb; replace BK135 := kb_ BK135 hb; replace BK136 := kb_ BK136 hb; replace HB := hb_ HB hb; (try clear hb); (try clear hb2); (try clear hk); (try clear hi); obtain ⟨_, _, _, _, _, _⟩ := bk3_ BK135.out; obtain ⟨_, _, _, _, _, _⟩ := bk3_ BK136.out))
    refine bodyPost_ret (results_ct rfl _ _ gb136 24 #[.slice A0_0 l0_0.length c0_0, .int .i64 a0_1, .int .i64 a0_2] (0, 0) _ rfl (by exact bp3_ BK136.out) Try.underlying24 rfl (by kernel_rfl)) rfl ?_
    exact ⟨_, by rfl, by exact Kd.V_mono (vf3_ (Kd.V_mono HO0_0.out (fun k_ hk => (⟨hk, hk.2⟩ : _ ∧ k_ ≠ gb136))) (fun _ hk => hk.2)) (fun _ hk => hk.1.1.1), by repeat ((with_reducible first | exact HB.out | refine below_set ?_ GE136.out))⟩

end Go.Proofs.Yteddflcloeelhaa.FOrd
