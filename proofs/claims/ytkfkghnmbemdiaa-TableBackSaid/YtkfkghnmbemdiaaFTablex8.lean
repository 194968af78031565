-- Written by the session (wip/tools) for this claim: functions of the program as Lean functions, and their contracts.
import Derived.Test.YtkfkghnmbemdiaaFTablex0
import Derived.Test.YtkfkghnmbemdiaaFTablex2
import Derived.Test.YtkfkghnmbemdiaaFTablex3
import Derived.Test.YtkfkghnmbemdiaaFTablex4
import Derived.Test.YtkfkghnmbemdiaaFTablex6
import Derived.Test.YtkfkghnmbemdiaaFTablex7
namespace Go.Proofs.Ytkfkghnmbemdiaa.FTable
open Go.RowKit Go.Proofs.YtkfkghnmbemdiaaW.PrintWords Go.Proofs.YtkfkghnmbemdiaaW.PrintLast Go.Proofs.YtkfkghnmbemdiaaW.PrintMore
attribute [local go_sem] max2_int min2_int max_two min_two max_three min_three max_four min_four   -- for this text's walks alone
set_option linter.unusedVariables false
set_option linter.unusedSimpArgs false

/-! ### remontoirlaw13_TableBack: function 4 -/
mutual
def remontoirlaw13_TableBack.j0 : Nat → List Int → Bool → Int → List (S46) → Option (Bool)
  | 0, _, _, _, _ => none
  | k + 1, x0, x23, x174000, x174001 => if x23 = true then ((remontoirlaw13_knows.f k).bind fun t174 => (some t174)) else ((table_Of.f k x0).bind fun bt175 => (if (x0.length : Int) > 0 then (remontoirlaw13_TableBack.j1 k x0 bt175.2.2 (decide ((x0.length : Int) ≤ 240)) x174000 x174001 bt175.1 bt175.2.1) else (remontoirlaw13_TableBack.j1 k x0 bt175.2.2 false x174000 x174001 bt175.1 bt175.2.1)))
def remontoirlaw13_TableBack.j1 : Nat → List Int → Int → Bool → Int → List (S46) → Int → List (S46) → Option (Bool)
  | 0, _, _, _, _, _, _, _ => none
  | k + 1, x0, x6, x7, x174000, x174001, x181000, x181001 => remontoirlaw13_TableBack.l0 k x0 x6 x7 0 x174000 x174001 x181000 x181001
def remontoirlaw13_TableBack.l0 : Nat → List Int → Int → Bool → Int → Int → List (S46) → Int → List (S46) → Option (Bool)
  | 0, _, _, _, _, _, _, _, _ => none
  | k + 1, x0, x6, x7, x8, x174000, x174001, x181000, x181001 => if x8 < (x0.length : Int) then (if x7 = true then (if 0 ≤ x8 then (if (rd x0 x8) ≥ (-1) then (remontoirlaw13_TableBack.l0 k x0 x6 (decide ((rd x0 x8) ≤ 3)) (wrap64 (x8 + 1)) x174000 x174001 x181000 x181001) else (remontoirlaw13_TableBack.l0 k x0 x6 false (wrap64 (x8 + 1)) x174000 x174001 x181000 x181001)) else (none)) else (remontoirlaw13_TableBack.l0 k x0 x6 false (wrap64 (x8 + 1)) x174000 x174001 x181000 x181001)) else (if x7 = true then ((table_Ticks.f k x181000 x181001).bind fun bt185 => (if x6 = 0 then (if bt185.2 = 0 then ((remontoirref05_SameInts.f k bt185.1 x0).bind fun t189 => (if t189 = true then ((table_Right.f k x181000 x181001).bind fun t190 => (remontoirlaw13_TableBack.j3 k (!t190) x174000 x174001)) else (remontoirlaw13_TableBack.j3 k true x174000 x174001))) else (remontoirlaw13_TableBack.j3 k true x174000 x174001)) else (remontoirlaw13_TableBack.j3 k true x174000 x174001))) else ((remontoirlaw13_Same.f k x181000 x181001 0 ([] : List (S46))).bind fun t183 => (if t183 = true then (if x6 = 1 then ((remontoirlaw13_knows.f k).bind fun t184 => (some t184)) else (some false)) else (some false))))
def remontoirlaw13_TableBack.j3 : Nat → Bool → Int → List (S46) → Option (Bool)
  | 0, _, _, _ => none
  | k + 1, x92, x174000, x174001 => if x92 = true then (some false) else ((table_Ticks.f k x174000 x174001).bind fun bt191 => (if bt191.2 = 0 then ((table_Of.f k bt191.1).bind fun bt195 => (if bt195.2.2 = 0 then ((remontoirlaw13_Same.f k bt195.1 bt195.2.1 x174000 x174001).bind fun t201 => (if t201 = true then ((remontoirlaw13_knows.f k).bind fun t202 => (some t202)) else (some false))) else (some false))) else (if (bt191.1.length : Int) = 0 then ((remontoirlaw13_knows.f k).bind fun t203 => (some t203)) else (some false))))
end
def remontoirlaw13_TableBack.f (k : Nat) (l0 : List Int) (a1_0 : Int) (l1_1 : List (S46)) : Option (Bool) := if (l0.length : Int) > 300 then (remontoirlaw13_TableBack.j0 k l0 true a1_0 l1_1) else (remontoirlaw13_TableBack.j0 k l0 (decide ((l1_1.length : Int) > 100)) a1_0 l1_1)
theorem remontoirlaw13_TableBack.mono_l : ∀ k, (∀ y0 y1 y2 y3, LeO (remontoirlaw13_TableBack.j0 k y0 y1 y2 y3) (remontoirlaw13_TableBack.j0 (k + 1) y0 y1 y2 y3)) ∧ (∀ y0 y1 y2 y3 y4 y5 y6, LeO (remontoirlaw13_TableBack.j1 k y0 y1 y2 y3 y4 y5 y6) (remontoirlaw13_TableBack.j1 (k + 1) y0 y1 y2 y3 y4 y5 y6)) ∧ (∀ y0 y1 y2 y3 y4 y5 y6 y7, LeO (remontoirlaw13_TableBack.l0 k y0 y1 y2 y3 y4 y5 y6 y7) (remontoirlaw13_TableBack.l0 (k + 1) y0 y1 y2 y3 y4 y5 y6 y7)) ∧ (∀ y0 y1 y2, LeO (remontoirlaw13_TableBack.j3 k y0 y1 y2) (remontoirlaw13_TableBack.j3 (k + 1) y0 y1 y2))
  | 0 => ⟨fun _ _ _ _ r h => by simp [remontoirlaw13_TableBack.j0] at h, fun _ _ _ _ _ _ _ r h => by simp [remontoirlaw13_TableBack.j1] at h, fun _ _ _ _ _ _ _ _ r h => by simp [remontoirlaw13_TableBack.l0] at h, fun _ _ _ r h => by simp [remontoirlaw13_TableBack.j3] at h⟩
  | k + 1 => by
    obtain ⟨ih0, ih1, ih2, ih3⟩ := remontoirlaw13_TableBack.mono_l k
    refine ⟨?_, ?_, ?_, ?_⟩
    · intro y0 y1 y2 y3
      unfold remontoirlaw13_TableBack.j0
      repeat' first
      | (with_reducible exact ih0 _ _ _ _)
      | (with_reducible exact ih1 _ _ _ _ _ _ _)
      | (with_reducible exact ih2 _ _ _ _ _ _ _ _)
      | (with_reducible exact ih3 _ _ _)
      | (with_reducible exact remontoirlaw13_Same.mono _ _ _ _ _)
      | (with_reducible exact remontoirlaw13_knows.mono _)
      | (with_reducible exact remontoirref05_SameInts.mono _ _ _)
      | (with_reducible exact table_Of.mono _ _)
      | (with_reducible exact table_Right.mono _ _ _)
      | (with_reducible exact table_Ticks.mono _ _ _)
      | (with_reducible exact LeO.refl _)
      | (with_reducible exact LeO.none _)
      | (with_reducible refine LeO.ite ?_ ?_)
      | (with_reducible refine LeO.bind ?_ (fun _ => ?_))
      | exact ih0 _ _ _ _
      | exact ih1 _ _ _ _ _ _ _
      | exact ih2 _ _ _ _ _ _ _ _
      | exact ih3 _ _ _
      | exact remontoirlaw13_Same.mono _ _ _ _ _
      | exact remontoirlaw13_knows.mono _
      | exact remontoirref05_SameInts.mono _ _ _
      | exact table_Of.mono _ _
      | exact table_Right.mono _ _ _
      | exact table_Ticks.mono _ _ _
      | exact LeO.none _
      | refine LeO.ite ?_ ?_
      | refine LeO.bind ?_ (fun _ => ?_)
    · intro y0 y1 y2 y3 y4 y5 y6
      unfold remontoirlaw13_TableBack.j1
      repeat' first
      | (with_reducible exact ih0 _ _ _ _)
      | (with_reducible exact ih1 _ _ _ _ _ _ _)
      | (with_reducible exact ih2 _ _ _ _ _ _ _ _)
      | (with_reducible exact ih3 _ _ _)
      | (with_reducible exact remontoirlaw13_Same.mono _ _ _ _ _)
      | (with_reducible exact remontoirlaw13_knows.mono _)
      | (with_reducible exact remontoirref05_SameInts.mono _ _ _)
      | (with_reducible exact table_Of.mono _ _)
      | (with_reducible exact table_Right.mono _ _ _)
      | (with_reducible exact table_Ticks.mono _ _ _)
      | (with_reducible exact LeO.refl _)
      | (with_reducible exact LeO.none _)
      | (with_reducible refine LeO.ite ?_ ?_)
      | (with_reducible refine LeO.bind ?_ (fun _ => ?_))
      | exact ih0 _ _ _ _
      | exact ih1 _ _ _ _ _ _ _
      | exact ih2 _ _ _ _ _ _ _ _
      | exact ih3 _ _ _
      | exact remontoirlaw13_Same.mono _ _ _ _ _
      | exact remontoirlaw13_knows.mono _
      | exact remontoirref05_SameInts.mono _ _ _
      | exact table_Of.mono _ _
      | exact table_Right.mono _ _ _
      | exact table_Ticks.mono _ _ _
      | exact LeO.none _
      | refine LeO.ite ?_ ?_
      | refine LeO.bind ?_ (fun _ => ?_)
    · intro y0 y1 y2 y3 y4 y5 y6 y7
      unfold remontoirlaw13_TableBack.l0
      repeat' first
      | (with_reducible exact ih0 _ _ _ _)
      | (with_reducible exact ih1 _ _ _ _ _ _ _)
      | (with_reducible exact ih2 _ _ _ _ _ _ _ _)
      | (with_reducible exact ih3 _ _ _)
      | (with_reducible exact remontoirlaw13_Same.mono _ _ _ _ _)
      | (with_reducible exact remontoirlaw13_knows.mono _)
      | (with_reducible exact remontoirref05_SameInts.mono _ _ _)
      | (with_reducible exact table_Of.mono _ _)
      | (with_reducible exact table_Right.mono _ _ _)
      | (with_reducible exact table_Ticks.mono _ _ _)
      | (with_reducible exact LeO.refl _)
      | (with_reducible exact LeO.none _)
      | (with_reducible refine LeO.ite ?_ ?_)
      | (with_reducible refine LeO.bind ?_ (fun _ => ?_))
      | exact ih0 _ _ _ _
      | exact ih1 _ _ _ _ _ _ _
      | exact ih2 _ _ _ _ _ _ _ _
      | exact ih3 _ _ _
      | exact remontoirlaw13_Same.mono _ _ _ _ _
      | exact remontoirlaw13_knows.mono _
      | exact remontoirref05_SameInts.mono _ _ _
      | exact table_Of.mono _ _
      | exact table_Right.mono _ _ _
      | exact table_Ticks.mono _ _ _
      | exact LeO.none _
      | refine LeO.ite ?_ ?_
      | refine LeO.bind ?_ (fun _ => ?_)
    · intro y0 y1 y2
      unfold remontoirlaw13_TableBack.j3
      repeat' first
      | (with_reducible exact ih0 _ _ _ _)
      | (with_reducible exact ih1 _ _ _ _ _ _ _)
      | (with_reducible exact ih2 _ _ _ _ _ _ _ _)
      | (with_reducible exact ih3 _ _ _)
      | (with_reducible exact remontoirlaw13_Same.mono _ _ _ _ _)
      | (with_reducible exact remontoirlaw13_knows.mono _)
      | (with_reducible exact remontoirref05_SameInts.mono _ _ _)
      | (with_reducible exact table_Of.mono _ _)
      | (with_reducible exact table_Right.mono _ _ _)
      | (with_reducible exact table_Ticks.mono _ _ _)
      | (with_reducible exact LeO.refl _)
      | (with_reducible exact LeO.none _)
      | (with_reducible refine LeO.ite ?_ ?_)
      | (with_reducible refine LeO.bind ?_ (fun _ => ?_))
      | exact ih0 _ _ _ _
      | exact ih1 _ _ _ _ _ _ _
      | exact ih2 _ _ _ _ _ _ _ _
      | exact ih3 _ _ _
      | exact remontoirlaw13_Same.mono _ _ _ _ _
      | exact remontoirlaw13_knows.mono _
      | exact remontoirref05_SameInts.mono _ _ _
      | exact table_Of.mono _ _
      | exact table_Right.mono _ _ _
      | exact table_Ticks.mono _ _ _
      | exact LeO.none _
      | refine LeO.ite ?_ ?_
      | refine LeO.bind ?_ (fun _ => ?_)
theorem remontoirlaw13_TableBack.mono : ∀ a0 a1 a2 k, LeO (remontoirlaw13_TableBack.f k a0 a1 a2) (remontoirlaw13_TableBack.f (k + 1) a0 a1 a2) := by
  intro a0 a1 a2 k
  obtain ⟨ih0, ih1, ih2, ih3⟩ := remontoirlaw13_TableBack.mono_l k
  unfold remontoirlaw13_TableBack.f
  repeat' first
      | (with_reducible exact ih0 _ _ _ _)
      | (with_reducible exact ih1 _ _ _ _ _ _ _)
      | (with_reducible exact ih2 _ _ _ _ _ _ _ _)
      | (with_reducible exact ih3 _ _ _)
      | (with_reducible exact remontoirlaw13_Same.mono _ _ _ _ _)
      | (with_reducible exact remontoirlaw13_knows.mono _)
      | (with_reducible exact remontoirref05_SameInts.mono _ _ _)
      | (with_reducible exact table_Of.mono _ _)
      | (with_reducible exact table_Right.mono _ _ _)
      | (with_reducible exact table_Ticks.mono _ _ _)
      | (with_reducible exact LeO.refl _)
      | (with_reducible exact LeO.none _)
      | (with_reducible refine LeO.ite ?_ ?_)
      | (with_reducible refine LeO.bind ?_ (fun _ => ?_))
      | exact ih0 _ _ _ _
      | exact ih1 _ _ _ _ _ _ _
      | exact ih2 _ _ _ _ _ _ _ _
      | exact ih3 _ _ _
      | exact remontoirlaw13_Same.mono _ _ _ _ _
      | exact remontoirlaw13_knows.mono _
      | exact remontoirref05_SameInts.mono _ _ _
      | exact table_Of.mono _ _
      | exact table_Right.mono _ _ _
      | exact table_Ticks.mono _ _ _
      | exact LeO.none _
      | refine LeO.ite ?_ ?_
      | refine LeO.bind ?_ (fun _ => ?_)
set_option maxHeartbeats 8000000 in
set_option maxRecDepth 100000 in
theorem remontoirlaw13_TableBack.calls (k : Nat) (A0 : Option Addr) (c0 : Nat) (l0 : List Int) (a1_0 : Int) (A1_1 : Option Addr) (c1_1 : Nat) (l1_1 : List (S46)) (w : World) (hr0 : Kd.C (Kd.int .i64) w A0 l0.length l0) (hc0 : l0.length ≤ c0) (hr1_1 : Kd.C k46 w A1_1 l1_1.length l1_1) (hc1_1 : l1_1.length ≤ c1_1) (h : remontoirlaw13_TableBack.f k l0 a1_0 l1_1 = some true) :
    Calls Try.prog 4 #[.slice A0 l0.length c0, .agg #[.int .i64 a1_0, .slice A1_1 l1_1.length c1_1]] w fun e w' => e = .returned (.bool true) ∧ Below w.heap.size w w' := by
  have hu24 := Try.underlying24
  have HR0 := Aside0.mk hr0
  have HC0 := Aside0.mk hc0
  clear hr0 hc0
  have HR1_1 := Aside0.mk hr1_1
  have HC1_1 := Aside0.mk hc1_1
  clear hr1_1 hc1_1
  have HB := Aside0.mk (Below.refl w.heap.size w)
  have H : (if (l0.length : Int) > 300 then (remontoirlaw13_TableBack.j0 k l0 true a1_0 l1_1) else (remontoirlaw13_TableBack.j0 k l0 (decide ((l1_1.length : Int) > 100)) a1_0 l1_1)) = some true := h
  clear h
  have HC3 := Aside0.mk H
  clear H
  go_enter Try.func4, Try.ntmps4
  go_upto_region 1 with (first | ((with_reducible refine gate_dst (N := 3) rfl ?_); (try (refine gate_guard (by rfl) ?_; dsimp only)); refine box_event ?hg (N := 3) ?hd (cs := #[.int .i64 a1_0, .slice A1_1 l1_1.length c1_1]) (t := 24) ?hr ?_; (case hd => rfl); (case hg => rfl); (case hr => first | (go_simp; done) | (go_simp; rfl)); intro gb173 hg w4 hbox hb; have n0_ := Aside0.mk (below_step (by repeat (first | (with_reducible first | exact HB.out | apply below_alloc | apply pw_below_drewN | apply below_drew1) | exact HB.out)) hb); have n1_ := Aside0.mk (hbox); have n2_ := Aside0.mk ((by rw [hg]; exact (below_size (by repeat (first | (with_reducible first | exact HB.out | apply below_alloc | apply pw_below_drewN | apply below_drew1) | exact HB.out))) : w.heap.size ≤ gb173)); have n3_ := Aside0.mk ((by rw [hg]; exact (below_size (by repeat (first | (with_reducible first | exact HB.out | apply below_alloc | apply pw_below_drewN | apply below_drew1) | exact HB.out))) : w.heap.size ≤ gb173)); clear HB; have HB := n0_; have BK173 := n1_; have GW173 := n2_; have GE173 := n3_; clear n0_ n1_ n2_ n3_; clear hb hbox hg))
  (try simp only [Act.put, List.setIfInBounds_toArray, List.set_cons_zero, List.set_cons_succ])
  go_cut [23] (fun v23 wc => ∃ (kq : Nat) (x23_2 : Bool), v23 = .bool x23_2 ∧ Aside0 (remontoirlaw13_TableBack.j0 kq l0 x23_2 a1_0 l1_1 = some true) ∧ Aside0 (kq ≤ k) ∧ Aside0 (wc.heap[gb173]? = some (.cells #[.int .i64 a1_0, (.slice A1_1 l1_1.length c1_1)] 24 (0, 0))) ∧ Aside0 (Below w.heap.size w wc))
  case first =>
    have H := HC3.out
    clear HC3
    by_cases c5 : (l0.length : Int) > 300
    · rw [if_pos c5] at H
      have c5b0 : decide (300 < (l0.length : Int)) = true := decide_eq_true c5
      have c5b1 : decide (300 < l0.length) = true := decide_eq_true (by omega)
      clear c5
      (first | rw [c5b0] | (simp only [i64_w, i32_w]; rw [c5b0]) | rw [c5b1] | (simp only [i64_w, i32_w]; rw [c5b1]) | skip)
      have H' := Aside0.mk H
      clear H
      go_wp2
      go_meet
      case rel => exact ⟨_, (true), (by first | rfl | (simp; done) | (simp [*]; done)), H', ⟨by first | omega | exact Nat.le_refl _⟩, ⟨by (with_reducible repeat (first | refine blk_drewN ?_ _ | refine blk_drew ?_ | refine blk_alloc ?_ _)); exact BK173.out⟩, ⟨by repeat (first | (with_reducible first | exact HB.out | apply below_alloc | apply pw_below_drewN | apply below_drew1 | refine below_set ?_ GE173.out) | exact HB.out)⟩⟩
    · rw [if_neg c5] at H
      have c5b0 : decide (300 < (l0.length : Int)) = false := decide_eq_false c5
      have c5b1 : decide (300 < l0.length) = false := decide_eq_false (by omega)
      clear c5
      (first | rw [c5b0] | (simp only [i64_w, i32_w]; rw [c5b0]) | rw [c5b1] | (simp only [i64_w, i32_w]; rw [c5b1]) | skip)
      have H' := Aside0.mk H
      clear H
      have hcz6_0 : w4.cell? ⟨gb173, 0, none⟩ = some (.int .i64 a1_0) := (blk_cell BK173.out 0).trans rfl
      have hcz6_1 : w4.cell? ⟨gb173, 1, none⟩ = some (.slice A1_1 l1_1.length c1_1) := (blk_cell BK173.out 1).trans rfl
      have hfz6_0 := blk_frozen BK173.out 0
      have hfz6_1 := blk_frozen BK173.out 1
      go_wp2
      go_meet
      case rel => exact ⟨_, (decide ((l1_1.length : Int) > 100)), (by first | rfl | (simp; done) | (simp [*]; done)), H', ⟨by first | omega | exact Nat.le_refl _⟩, ⟨by (with_reducible repeat (first | refine blk_drewN ?_ _ | refine blk_drew ?_ | refine blk_alloc ?_ _)); exact BK173.out⟩, ⟨by repeat (first | (with_reducible first | exact HB.out | apply below_alloc | apply pw_below_drewN | apply below_drew1 | refine below_set ?_ GE173.out) | exact HB.out)⟩⟩
  case rest =>
    clear HC3
    try clear c1
    try clear p2
    try clear c4
    try clear c5
    try clear c5b0
    try clear c5b1
    try clear hcz6_0
    try clear hcz6_1
    try clear hfz6_0
    try clear hfz6_1
    obtain ⟨kq, x23_2, rfl, HA, HJ2, BK173, HB⟩ := hcut
    cases kq with
    | zero => exact absurd HA.out (by simp [remontoirlaw13_TableBack.j0])
    | succ kj2 =>
      have H := HA.out
      clear HA
      simp only [remontoirlaw13_TableBack.j0] at H
      by_cases c7 : x23_2 = true
      · subst c7
        have H1 : ((remontoirlaw13_knows.f kj2).bind fun t174 => (some t174)) = some true := by rw [if_pos rfl] at H; exact H
        clear H
        have H := H1
        clear H1
        replace H := Option.bind_eq_some_iff.mp H
        obtain ⟨t174, A80, H⟩ := H
        replace H : (some t174) = some true := H
        have A8 := Aside0.mk A80
        clear A80
        have HR_ := Aside0.mk (Option.some.inj H)
        clear H
        go_wp2_with (first | ((with_reducible refine gate_callee (f := 13) rfl ?_); refine goesL_ (some 24) rfl rfl Try.func13 (by kernel_rfl) rfl #[] rfl (by (try simp only [List.map_toArray, List.map_cons, List.map_nil]); first | done | rfl | (simp only [List.length_drop, List.length_take]; rfl)) ?_; (with_reducible refine (remontoirlaw13_knows.calls kj2  t174 _ A8.out).mono ?_); rintro e w9 ⟨rfl, hb⟩; refine ⟨_, rfl, ?_⟩; have n0_ := Aside0.mk (blk_below (g := gb173) (o := .cells #[.int .i64 a1_0, .slice A1_1 l1_1.length c1_1] 24 (0, 0)) (by (with_reducible repeat (first | refine blk_drewN ?_ _ | refine blk_drew ?_ | refine blk_alloc ?_ _)); exact BK173.out) hb); have n1_ := Aside0.mk (below_step (by repeat (first | (with_reducible first | exact HB.out | apply below_alloc | apply pw_below_drewN | apply below_drew1 | refine below_set ?_ GE173.out) | exact HB.out)) hb); clear BK173; clear HB; have BK173 := n0_; have HB := n1_; clear n0_ n1_; (try clear hb); (try clear hb2); (try clear hk); (try clear hi)))
        go_ret
        exact ⟨by first | rfl | (rw [HR_.out] <;> rfl) | (simp [errW_none, errW_some] <;> rfl) | (simp [*, errW_none, errW_some] <;> rfl), by repeat (first | (with_reducible first | exact HB.out | apply below_alloc | apply pw_below_drewN | apply below_drew1 | refine below_set ?_ GE173.out) | exact HB.out)⟩
      · replace c7 := Bool.eq_false_iff.mpr c7
        subst c7
        have H1 : ((table_Of.f kj2 l0).bind fun bt175 => (if (l0.length : Int) > 0 then (remontoirlaw13_TableBack.j1 kj2 l0 bt175.2.2 (decide ((l0.length : Int) ≤ 240)) a1_0 l1_1 bt175.1 bt175.2.1) else (remontoirlaw13_TableBack.j1 kj2 l0 bt175.2.2 false a1_0 l1_1 bt175.1 bt175.2.1))) = some true := by rw [if_neg (show ¬ (false = true) by decide)] at H; exact H
        clear H
        have H := H1
        clear H1
        replace H := Option.bind_eq_some_iff.mp H
        obtain ⟨⟨t175, t176, t179⟩, A100, H⟩ := H
        replace H : (if (l0.length : Int) > 0 then (remontoirlaw13_TableBack.j1 kj2 l0 t179 (decide ((l0.length : Int) ≤ 240)) a1_0 l1_1 t175 t176) else (remontoirlaw13_TableBack.j1 kj2 l0 t179 false a1_0 l1_1 t175 t176)) = some true := H
        have A10 := Aside0.mk A100
        clear A100
        have HC11 := Aside0.mk H
        clear H
        go_upto_region 4 with (first | ((with_reducible refine gate_callee (f := 21) rfl ?_); refine goesL_ (some 27) rfl rfl Try.func21 (by kernel_rfl) rfl #[.slice A0 l0.length c0] rfl (by (try simp only [List.map_toArray, List.map_cons, List.map_nil]); first | done | rfl | (simp only [List.length_drop, List.length_take]; rfl)) ?_; (with_reducible refine (table_Of.calls kj2 _ _ l0 t175 t176 t179 _ ?side1 ?side2 A10.out).mono ?_); (case side1 => repeat (first | exact (Kd.C_below HR0.out HB.out) | (with_reducible refine Kd.C_alloc ?_ _) | (with_reducible refine Kd.C_drewN ?_ _) | (with_reducible refine Kd.C_drew ?_))); (case side2 => exact HC0.out); rintro e w12 ⟨v177, rfl, ho0, hb⟩; refine ⟨_, rfl, ?_⟩; have n0_ := Aside0.mk (Kd.R_lower ho0 (below_size (by repeat (first | (with_reducible first | exact HB.out | apply below_alloc | apply pw_below_drewN | apply below_drew1 | refine below_set ?_ GE173.out) | exact HB.out)))); have n1_ := Aside0.mk (blk_below (g := gb173) (o := .cells #[.int .i64 a1_0, .slice A1_1 l1_1.length c1_1] 24 (0, 0)) (by (with_reducible repeat (first | refine blk_drewN ?_ _ | refine blk_drew ?_ | refine blk_alloc ?_ _)); exact BK173.out) hb); have n2_ := Aside0.mk (below_step (by repeat (first | (with_reducible first | exact HB.out | apply below_alloc | apply pw_below_drewN | apply below_drew1 | refine below_set ?_ GE173.out) | exact HB.out)) hb); clear BK173; clear HB; have HO178 := n0_; have BK173 := n1_; have HB := n2_; clear n0_ n1_ n2_; (try clear hb); (try clear hb2); (try clear hk); (try clear hi); (try clear ho0)) | ((with_reducible refine gate_dst (N := 5) rfl ?_); (try (refine gate_guard (by rfl) ?_; dsimp only)); refine box_event ?hg (N := 5) ?hd (cs := #[.int .i64 0, .slice none 0 0]) (t := 24) ?hr ?_; (case hd => rfl); (case hg => rfl); (case hr => first | (go_simp; done) | (go_simp; rfl)); intro gb180 hg w13 hbox hb; have n0_ := Aside0.mk (Kd.R_below (by (with_reducible repeat (first | apply Kd.R_alloc | apply Kd.R_drewN | apply Kd.R_drew)); exact HO178.out) hb); have n1_ := Aside0.mk (blk_below (g := gb173) (o := .cells #[.int .i64 a1_0, .slice A1_1 l1_1.length c1_1] 24 (0, 0)) (by (with_reducible repeat (first | refine blk_drewN ?_ _ | refine blk_drew ?_ | refine blk_alloc ?_ _)); exact BK173.out) hb); have n2_ := Aside0.mk (below_step (by repeat (first | (with_reducible first | exact HB.out | apply below_alloc | apply pw_below_drewN | apply below_drew1 | refine below_set ?_ GE173.out) | exact HB.out)) hb); have n3_ := Aside0.mk (hbox); have n4_ := Aside0.mk ((by rw [hg]; exact (below_size (by repeat (first | (with_reducible first | exact HB.out | apply below_alloc | apply pw_below_drewN | apply below_drew1 | refine below_set ?_ GE173.out) | exact HB.out))) : w.heap.size ≤ gb180)); have n5_ := Aside0.mk ((by rw [hg]; exact (below_size (by repeat (first | (with_reducible first | exact HB.out | apply below_alloc | apply pw_below_drewN | apply below_drew1 | refine below_set ?_ GE173.out) | exact HB.out))) : w.heap.size ≤ gb180)); have n6_ := Aside0.mk ((by rw [hg]; exact Nat.ne_of_lt (blk_lt (g := gb173) (o := .cells #[.int .i64 a1_0, .slice A1_1 l1_1.length c1_1] 24 (0, 0)) (by (with_reducible repeat (first | refine blk_drewN ?_ _ | refine blk_drew ?_ | refine blk_alloc ?_ _)); exact BK173.out)) : gb173 ≠ gb180)); have n7_ := Aside0.mk ((by rw [hg]; exact Nat.ne_of_gt (blk_lt (g := gb173) (o := .cells #[.int .i64 a1_0, .slice A1_1 l1_1.length c1_1] 24 (0, 0)) (by (with_reducible repeat (first | refine blk_drewN ?_ _ | refine blk_drew ?_ | refine blk_alloc ?_ _)); exact BK173.out)) : gb180 ≠ gb173)); clear HO178; clear BK173; clear HB; have HO178 := n0_; have BK173 := n1_; have HB := n2_; have BK180 := n3_; have GW180 := n4_; have GE180 := n5_; have NB173_180 := n6_; have NB180_173 := n7_; clear n0_ n1_ n2_ n3_ n4_ n5_ n6_ n7_; clear hb hbox hg; have hnb14 := NB180_173.out; have hnc14 := NB173_180.out; have hcz15_0 : w13.cell? ⟨gb180, 0, none⟩ = some (.int .i64 0) := (blk_cell BK180.out 0).trans rfl; have hcz15_1 : w13.cell? ⟨gb180, 1, none⟩ = some (.slice none 0 0) := (blk_cell BK180.out 1).trans rfl; have hfz15_0 := blk_frozen BK180.out 0; have hfz15_1 := blk_frozen BK180.out 1; obtain ⟨Ao16, co16, eo16⟩ := Kd.R_slice HO178.out; subst eo16))
        (try simp only [Act.put, List.setIfInBounds_toArray, List.set_cons_zero, List.set_cons_succ])
        go_cut [7] (fun v7 wc => ∃ (kq : Nat) (x7_10 : Bool), v7 = .bool x7_10 ∧ Aside0 (remontoirlaw13_TableBack.j1 kq l0 t179 x7_10 a1_0 l1_1 t175 t176 = some true) ∧ Aside0 (kq ≤ kj2) ∧ Aside0 (Kd.R k46 46 wc w.heap.size (fun _ => True) (.slice Ao16 t176.length co16) t176) ∧ Aside0 (wc.heap[gb173]? = some (.cells #[.int .i64 a1_0, (.slice A1_1 l1_1.length c1_1)] 24 (0, 0))) ∧ Aside0 (wc.heap[gb180]? = some (.cells #[.int .i64 t175, (.slice Ao16 t176.length co16)] 24 (0, 0))) ∧ Aside0 (Below w.heap.size w wc))
        case first =>
          have H := HC11.out
          clear HC11
          by_cases c17 : (l0.length : Int) > 0
          · rw [if_pos c17] at H
            have c17b0 : decide (0 < (l0.length : Int)) = true := decide_eq_true c17
            have c17b1 : decide (0 < l0.length) = true := decide_eq_true (by omega)
            clear c17
            (first | rw [c17b0] | (simp only [i64_w, i32_w]; rw [c17b0]) | rw [c17b1] | (simp only [i64_w, i32_w]; rw [c17b1]) | skip)
            have H' := Aside0.mk H
            clear H
            go_wp2
            go_meet
            case rel => exact ⟨_, (decide ((l0.length : Int) ≤ 240)), (by first | rfl | (simp; done) | (simp [*]; done)), H', ⟨by have := HJ2.out; first | omega | exact Nat.le_refl _⟩, ⟨by (with_reducible repeat (first | apply Kd.R_alloc | apply Kd.R_drewN | apply Kd.R_drew)); exact Kd.R_mono (Kd.R_far (p := ⟨gb180, 1, none⟩) (Kd.R_far (p := ⟨gb180, 0, none⟩) (Kd.R_types HO178.out BK180.out (by decide)) (fun _ hk => hk.2) (.int .i64 t175)) (fun _ hk => hk.2) (.slice Ao16 t176.length co16)) (fun _ hk => trivial)⟩, ⟨by (with_reducible repeat (first | refine blk_drewN ?_ _ | refine blk_drew ?_ | refine blk_alloc ?_ _)); refine blk_far ?_ NB173_180.out _; (with_reducible repeat (first | refine blk_drewN ?_ _ | refine blk_drew ?_ | refine blk_alloc ?_ _)); refine blk_far ?_ NB173_180.out _; (with_reducible repeat (first | refine blk_drewN ?_ _ | refine blk_drew ?_ | refine blk_alloc ?_ _)); exact BK173.out⟩, ⟨by (with_reducible repeat (first | refine blk_drewN ?_ _ | refine blk_drew ?_ | refine blk_alloc ?_ _)); refine blk_put (cs := #[.int .i64 t175, .slice none 0 0]) ?_ 1 _ rfl; (with_reducible repeat (first | refine blk_drewN ?_ _ | refine blk_drew ?_ | refine blk_alloc ?_ _)); refine blk_put (cs := #[.int .i64 0, .slice none 0 0]) ?_ 0 _ rfl; (with_reducible repeat (first | refine blk_drewN ?_ _ | refine blk_drew ?_ | refine blk_alloc ?_ _)); exact BK180.out⟩, ⟨by repeat (first | (with_reducible first | exact HB.out | apply below_alloc | apply pw_below_drewN | apply below_drew1 | refine below_set ?_ GE173.out | refine below_set ?_ GE180.out) | exact HB.out)⟩⟩
          · rw [if_neg c17] at H
            have c17b0 : decide (0 < (l0.length : Int)) = false := decide_eq_false c17
            have c17b1 : decide (0 < l0.length) = false := decide_eq_false (by omega)
            clear c17
            (first | rw [c17b0] | (simp only [i64_w, i32_w]; rw [c17b0]) | rw [c17b1] | (simp only [i64_w, i32_w]; rw [c17b1]) | skip)
            have H' := Aside0.mk H
            clear H
            go_wp2
            go_meet
            case rel => exact ⟨_, (false), (by first | rfl | (simp; done) | (simp [*]; done)), H', ⟨by have := HJ2.out; first | omega | exact Nat.le_refl _⟩, ⟨by (with_reducible repeat (first | apply Kd.R_alloc | apply Kd.R_drewN | apply Kd.R_drew)); exact Kd.R_mono (Kd.R_far (p := ⟨gb180, 1, none⟩) (Kd.R_far (p := ⟨gb180, 0, none⟩) (Kd.R_types HO178.out BK180.out (by decide)) (fun _ hk => hk.2) (.int .i64 t175)) (fun _ hk => hk.2) (.slice Ao16 t176.length co16)) (fun _ hk => trivial)⟩, ⟨by (with_reducible repeat (first | refine blk_drewN ?_ _ | refine blk_drew ?_ | refine blk_alloc ?_ _)); refine blk_far ?_ NB173_180.out _; (with_reducible repeat (first | refine blk_drewN ?_ _ | refine blk_drew ?_ | refine blk_alloc ?_ _)); refine blk_far ?_ NB173_180.out _; (with_reducible repeat (first | refine blk_drewN ?_ _ | refine blk_drew ?_ | refine blk_alloc ?_ _)); exact BK173.out⟩, ⟨by (with_reducible repeat (first | refine blk_drewN ?_ _ | refine blk_drew ?_ | refine blk_alloc ?_ _)); refine blk_put (cs := #[.int .i64 t175, .slice none 0 0]) ?_ 1 _ rfl; (with_reducible repeat (first | refine blk_drewN ?_ _ | refine blk_drew ?_ | refine blk_alloc ?_ _)); refine blk_put (cs := #[.int .i64 0, .slice none 0 0]) ?_ 0 _ rfl; (with_reducible repeat (first | refine blk_drewN ?_ _ | refine blk_drew ?_ | refine blk_alloc ?_ _)); exact BK180.out⟩, ⟨by repeat (first | (with_reducible first | exact HB.out | apply below_alloc | apply pw_below_drewN | apply below_drew1 | refine below_set ?_ GE173.out | refine below_set ?_ GE180.out) | exact HB.out)⟩⟩
        case rest =>
          clear HC11
          try clear c1
          try clear c2
          try clear p2
          try clear c4
          try clear c5
          try clear c5b0
          try clear c5b1
          try clear c7
          try clear c13
          try clear c14
          try clear c17
          try clear c17b0
          try clear c17b1
          try clear hcz15_0
          try clear hcz15_1
          try clear hcz6_0
          try clear hcz6_1
          try clear hfz15_0
          try clear hfz15_1
          try clear hfz6_0
          try clear hfz6_1
          try clear p2
          obtain ⟨kq, x7_10, rfl, HA, HJ10, HO_181001, BK173, BK180, HB⟩ := hcut
          cases kq with
          | zero => exact absurd HA.out (by simp [remontoirlaw13_TableBack.j1])
          | succ kj10 =>
            have H := HA.out
            clear HA
            simp only [remontoirlaw13_TableBack.j1] at H
            have H' := Aside0.mk H
            clear H
            go_wp2
            go_loopg [7, 8] kj10 (fun kq v7 v8 w' => ∃ (x7_3 : Bool) (x8_3 : Int), v7 = .bool x7_3 ∧ v8 = .int .i64 x8_3 ∧ Aside0 (remontoirlaw13_TableBack.l0 kq l0 t179 x7_3 x8_3 a1_0 l1_1 t175 t176 = some true) ∧ Aside0 (kq ≤ kj10) ∧ Aside0 (Kd.R k46 46 w' w.heap.size (fun _ => True) (.slice Ao16 t176.length co16) t176) ∧ Aside0 (w'.heap[gb173]? = some (.cells #[.int .i64 a1_0, (.slice A1_1 l1_1.length c1_1)] 24 (0, 0))) ∧ Aside0 (w'.heap[gb180]? = some (.cells #[.int .i64 t175, (.slice Ao16 t176.length co16)] 24 (0, 0))) ∧ Aside0 (Below w.heap.size w w'))
            case atStart => exact ⟨(x7_10), (0), (by first | rfl | (simp; done) | (simp [*]; done)), (by first | rfl | (simp; done) | (simp [*]; done)), H', ⟨Nat.le_refl _⟩, ⟨by (with_reducible repeat (first | apply Kd.R_alloc | apply Kd.R_drewN | apply Kd.R_drew)); exact HO_181001.out⟩, ⟨by (with_reducible repeat (first | refine blk_drewN ?_ _ | refine blk_drew ?_ | refine blk_alloc ?_ _)); exact BK173.out⟩, ⟨by (with_reducible repeat (first | refine blk_drewN ?_ _ | refine blk_drew ?_ | refine blk_alloc ?_ _)); exact BK180.out⟩, ⟨by repeat (first | (with_reducible first | exact HB.out | apply below_alloc | apply pw_below_drewN | apply below_drew1 | refine below_set ?_ GE173.out | refine below_set ?_ GE180.out) | exact HB.out)⟩⟩
            case round =>
              clear H'
              try clear c1
              try clear c2
              try clear p2
              try clear c4
              try clear c5
              try clear c5b0
              try clear c5b1
              try clear c7
              try clear c13
              try clear c14
              try clear c17
              try clear c17b0
              try clear c17b1
              try clear hcz15_0
              try clear hcz15_1
              try clear hcz6_0
              try clear hcz6_1
              try clear hfz15_0
              try clear hfz15_1
              try clear hfz6_0
              try clear hfz6_1
              try clear p2
              obtain ⟨x7_3, x8_3, rfl, rfl, HA, HK3, HO_181001, BK173, BK180, HB⟩ := hrel
              cases gk with
              | zero => exact absurd HA.out (by simp [remontoirlaw13_TableBack.l0])
              | succ k3 =>
                have H := HA.out
                clear HA
                simp only [remontoirlaw13_TableBack.l0] at H
                by_cases c18 : x8_3 < (l0.length : Int)
                · rw [if_pos c18] at H
                  have c18b0 : decide (x8_3 < (l0.length : Int)) = true := decide_eq_true c18
                  clear c18
                  by_cases c19 : x7_3 = true
                  · subst c19
                    have H1 : (if 0 ≤ x8_3 then (if (rd l0 x8_3) ≥ (-1) then (remontoirlaw13_TableBack.l0 k3 l0 t179 (decide ((rd l0 x8_3) ≤ 3)) (wrap64 (x8_3 + 1)) a1_0 l1_1 t175 t176) else (remontoirlaw13_TableBack.l0 k3 l0 t179 false (wrap64 (x8_3 + 1)) a1_0 l1_1 t175 t176)) else (none)) = some true := by rw [if_pos rfl] at H; exact H
                    clear H
                    have H := H1
                    clear H1
                    by_cases c20 : 0 ≤ x8_3
                    · rw [if_pos c20] at H
                      have c20b0 : decide (0 ≤ x8_3) = true := decide_eq_true c20
                      clear c20
                      by_cases c21 : (rd l0 x8_3) ≥ (-1)
                      · rw [if_pos c21] at H
                        have c21b0 : decide ((-1) ≤ (rd l0 x8_3)) = true := decide_eq_true c21
                        clear c21
                        have H' := Aside0.mk H
                        clear H
                        have p181 : 0 ≤ (x8_3 : Int) := of_decide_eq_true (by first | (with_reducible assumption) | assumption)
                        have q181 : x8_3 < (l0.length : Int) := of_decide_eq_true (by first | (with_reducible assumption) | assumption)
                        obtain ⟨ad181, e181, hx181_0⟩ := Kd.at_int HR0.out x8_3 p181 q181
                        cases e181
                        replace hx181_0 := (HB.out.cell (World.block_lt_of_cell? w _ hx181_0)).trans hx181_0
                        replace p181 := eq_true p181
                        replace q181 := eq_true q181
                        have p182 : 0 ≤ (x8_3 : Int) := of_decide_eq_true (by first | (with_reducible assumption) | assumption)
                        have q182 : x8_3 < (l0.length : Int) := of_decide_eq_true (by first | (with_reducible assumption) | assumption)
                        obtain ⟨ad182, e182, hx182_0⟩ := Kd.at_int HR0.out x8_3 p182 q182
                        obtain rfl : ad181 = ad182 := (by injection e182)
                        replace hx182_0 := (HB.out.cell (World.block_lt_of_cell? w _ hx182_0)).trans hx182_0
                        replace p182 := eq_true p182
                        replace q182 := eq_true q182
                        go_wp2
                        go_roundg k3
                        case measure => have := HJ2.out; have := HJ10.out; have := HK3.out; omega
                        case rel => exact ⟨(decide ((rd l0 x8_3) ≤ 3)), (wrap64 (x8_3 + 1)), (by first | rfl | (simp; done) | (simp [*]; done)), (by first | rfl | (simp; done) | (simp [*]; done)), H', ⟨by have := HJ2.out; have := HJ10.out; have := HK3.out; omega⟩, ⟨by (with_reducible repeat (first | apply Kd.R_alloc | apply Kd.R_drewN | apply Kd.R_drew)); exact HO_181001.out⟩, ⟨by (with_reducible repeat (first | refine blk_drewN ?_ _ | refine blk_drew ?_ | refine blk_alloc ?_ _)); exact BK173.out⟩, ⟨by (with_reducible repeat (first | refine blk_drewN ?_ _ | refine blk_drew ?_ | refine blk_alloc ?_ _)); exact BK180.out⟩, ⟨by repeat (first | (with_reducible first | exact HB.out | apply below_alloc | apply pw_below_drewN | apply below_drew1 | refine below_set ?_ GE173.out | refine below_set ?_ GE180.out) | exact HB.out)⟩⟩
                      · rw [if_neg c21] at H
                        have c21b0 : decide ((-1) ≤ (rd l0 x8_3)) = false := decide_eq_false c21
                        clear c21
                        have H' := Aside0.mk H
                        clear H
                        have p181 : 0 ≤ (x8_3 : Int) := of_decide_eq_true (by first | (with_reducible assumption) | assumption)
                        have q181 : x8_3 < (l0.length : Int) := of_decide_eq_true (by first | (with_reducible assumption) | assumption)
                        obtain ⟨ad181, e181, hx181_0⟩ := Kd.at_int HR0.out x8_3 p181 q181
                        cases e181
                        replace hx181_0 := (HB.out.cell (World.block_lt_of_cell? w _ hx181_0)).trans hx181_0
                        replace p181 := eq_true p181
                        replace q181 := eq_true q181
                        go_wp2
                        go_roundg k3
                        case measure => have := HJ2.out; have := HJ10.out; have := HK3.out; omega
                        case rel => exact ⟨(false), (wrap64 (x8_3 + 1)), (by first | rfl | (simp; done) | (simp [*]; done)), (by first | rfl | (simp; done) | (simp [*]; done)), H', ⟨by have := HJ2.out; have := HJ10.out; have := HK3.out; omega⟩, ⟨by (with_reducible repeat (first | apply Kd.R_alloc | apply Kd.R_drewN | apply Kd.R_drew)); exact HO_181001.out⟩, ⟨by (with_reducible repeat (first | refine blk_drewN ?_ _ | refine blk_drew ?_ | refine blk_alloc ?_ _)); exact BK173.out⟩, ⟨by (with_reducible repeat (first | refine blk_drewN ?_ _ | refine blk_drew ?_ | refine blk_alloc ?_ _)); exact BK180.out⟩, ⟨by repeat (first | (with_reducible first | exact HB.out | apply below_alloc | apply pw_below_drewN | apply below_drew1 | refine below_set ?_ GE173.out | refine below_set ?_ GE180.out) | exact HB.out)⟩⟩
                    · rw [if_neg c20] at H
                      exact absurd H (by simp)
                  · replace c19 := Bool.eq_false_iff.mpr c19
                    subst c19
                    have H1 : (remontoirlaw13_TableBack.l0 k3 l0 t179 false (wrap64 (x8_3 + 1)) a1_0 l1_1 t175 t176) = some true := by rw [if_neg (show ¬ (false = true) by decide)] at H; exact H
                    clear H
                    have H := H1
                    clear H1
                    have H' := Aside0.mk H
                    clear H
                    go_wp2
                    go_roundg k3
                    case measure => have := HJ2.out; have := HJ10.out; have := HK3.out; omega
                    case rel => exact ⟨(false), (wrap64 (x8_3 + 1)), (by first | rfl | (simp; done) | (simp [*]; done)), (by first | rfl | (simp; done) | (simp [*]; done)), H', ⟨by have := HJ2.out; have := HJ10.out; have := HK3.out; omega⟩, ⟨by (with_reducible repeat (first | apply Kd.R_alloc | apply Kd.R_drewN | apply Kd.R_drew)); exact HO_181001.out⟩, ⟨by (with_reducible repeat (first | refine blk_drewN ?_ _ | refine blk_drew ?_ | refine blk_alloc ?_ _)); exact BK173.out⟩, ⟨by (with_reducible repeat (first | refine blk_drewN ?_ _ | refine blk_drew ?_ | refine blk_alloc ?_ _)); exact BK180.out⟩, ⟨by repeat (first | (with_reducible first | exact HB.out | apply below_alloc | apply pw_below_drewN | apply below_drew1 | refine below_set ?_ GE173.out | refine below_set ?_ GE180.out) | exact HB.out)⟩⟩
                · rw [if_neg c18] at H
                  have c18b0 : decide (x8_3 < (l0.length : Int)) = false := decide_eq_false c18
                  clear c18
                  by_cases c22 : x7_3 = true
                  · subst c22
                    have H1 : ((table_Ticks.f k3 t175 t176).bind fun bt185 => (if t179 = 0 then (if bt185.2 = 0 then ((remontoirref05_SameInts.f k3 bt185.1 l0).bind fun t189 => (if t189 = true then ((table_Right.f k3 t175 t176).bind fun t190 => (remontoirlaw13_TableBack.j3 k3 (!t190) a1_0 l1_1)) else (remontoirlaw13_TableBack.j3 k3 true a1_0 l1_1))) else (remontoirlaw13_TableBack.j3 k3 true a1_0 l1_1)) else (remontoirlaw13_TableBack.j3 k3 true a1_0 l1_1))) = some true := by rw [if_pos rfl] at H; exact H
                    clear H
                    have H := H1
                    clear H1
                    replace H := Option.bind_eq_some_iff.mp H
                    obtain ⟨⟨t185, t188⟩, A230, H⟩ := H
                    replace H : (if t179 = 0 then (if t188 = 0 then ((remontoirref05_SameInts.f k3 t185 l0).bind fun t189 => (if t189 = true then ((table_Right.f k3 t175 t176).bind fun t190 => (remontoirlaw13_TableBack.j3 k3 (!t190) a1_0 l1_1)) else (remontoirlaw13_TableBack.j3 k3 true a1_0 l1_1))) else (remontoirlaw13_TableBack.j3 k3 true a1_0 l1_1)) else (remontoirlaw13_TableBack.j3 k3 true a1_0 l1_1)) = some true := H
                    have A23 := Aside0.mk A230
                    clear A230
                    have HC24 := Aside0.mk H
                    clear H
                    have hnb25 := NB180_173.out
                    have hnc25 := NB173_180.out
                    have hcz26_0 : wr.cell? ⟨gb180, 0, none⟩ = some (.int .i64 t175) := (blk_cell BK180.out 0).trans rfl
                    have hcz26_1 : wr.cell? ⟨gb180, 1, none⟩ = some (.slice Ao16 t176.length co16) := (blk_cell BK180.out 1).trans rfl
                    have hfz26_0 := blk_frozen BK180.out 0
                    have hfz26_1 := blk_frozen BK180.out 1
                    go_upto_region 12 with (first | ((with_reducible refine gate_callee (f := 14) rfl ?_); refine goesL_ (some 73) rfl rfl Try.func14 (by kernel_rfl) rfl #[.agg #[.int .i64 t175, .slice Ao16 t176.length co16]] rfl (by (try simp only [List.map_toArray, List.map_cons, List.map_nil]); first | done | rfl | (simp only [List.length_drop, List.length_take]; rfl)) ?_; (with_reducible refine (table_Ticks.calls k3 t175 _ _ t176 t185 t188 _ ?side1 ?side2 A23.out).mono ?_); (case side1 => repeat (first | exact (Kd.R_reads' HO_181001.out).2.2 | (with_reducible refine Kd.C_alloc ?_ _) | (with_reducible refine Kd.C_drewN ?_ _) | (with_reducible refine Kd.C_drew ?_))); (case side2 => exact (Kd.R_reads' HO_181001.out).2.1); rintro e w27 ⟨v186, rfl, ho0, hb⟩; refine ⟨_, rfl, ?_⟩; have n0_ := Aside0.mk (Kd.R_below (by (with_reducible repeat (first | apply Kd.R_alloc | apply Kd.R_drewN | apply Kd.R_drew)); exact HO_181001.out) hb); have n1_ := Aside0.mk (Kd.R_lower ho0 (below_size (by repeat (first | (with_reducible first | exact HB.out | apply below_alloc | apply pw_below_drewN | apply below_drew1 | refine below_set ?_ GE173.out | refine below_set ?_ GE180.out) | exact HB.out)))); have n2_ := Aside0.mk (blk_below (g := gb173) (o := .cells #[.int .i64 a1_0, .slice A1_1 l1_1.length c1_1] 24 (0, 0)) (by (with_reducible repeat (first | refine blk_drewN ?_ _ | refine blk_drew ?_ | refine blk_alloc ?_ _)); exact BK173.out) hb); have n3_ := Aside0.mk (blk_below (g := gb180) (o := .cells #[.int .i64 t175, .slice Ao16 t176.length co16] 24 (0, 0)) (by (with_reducible repeat (first | refine blk_drewN ?_ _ | refine blk_drew ?_ | refine blk_alloc ?_ _)); exact BK180.out) hb); have n4_ := Aside0.mk (below_step (by repeat (first | (with_reducible first | exact HB.out | apply below_alloc | apply pw_below_drewN | apply below_drew1 | refine below_set ?_ GE173.out | refine below_set ?_ GE180.out) | exact HB.out)) hb); clear HO_181001; clear BK173; clear BK180; clear HB; have HO_181001 := n0_; have HO187 := n1_; have BK173 := n2_; have BK180 := n3_; have HB := n4_; clear n0_ n1_ n2_ n3_ n4_; (try clear hb); (try clear hb2); (try clear hk); (try clear hi); (try clear ho0)))
                    (try simp only [Act.put, List.setIfInBounds_toArray, List.set_cons_zero, List.set_cons_succ])
                    go_cut [92] (fun v92 wc => ∃ (kq : Nat) (x92_23 : Bool), v92 = .bool x92_23 ∧ Aside0 (remontoirlaw13_TableBack.j3 kq x92_23 a1_0 l1_1 = some true) ∧ Aside0 (kq ≤ k3) ∧ Aside0 (Kd.R k46 46 wc w.heap.size (fun _ => True) (.slice Ao16 t176.length co16) t176) ∧ Aside0 (wc.heap[gb173]? = some (.cells #[.int .i64 a1_0, (.slice A1_1 l1_1.length c1_1)] 24 (0, 0))) ∧ Aside0 (wc.heap[gb180]? = some (.cells #[.int .i64 t175, (.slice Ao16 t176.length co16)] 24 (0, 0))) ∧ Aside0 (Below w.heap.size w wc))
                    case first =>
                      have H := HC24.out
                      clear HC24
                      by_cases c28 : t179 = 0
                      · rw [if_pos c28] at H
                        have c28b0 : (t179 == 0) = true := beq_iff_eq.mpr c28
                        have c28b1 : (t179 != 0) = false := bne_eq_false_iff_eq.mpr c28
                        clear c28
                        (first | rw [c28b0] | (simp only [i64_w, i32_w]; rw [c28b0]) | rw [c28b1] | (simp only [i64_w, i32_w]; rw [c28b1]) | skip)
                        by_cases c29 : t188 = 0
                        · rw [if_pos c29] at H
                          have c29b0 : (t188 == 0) = true := beq_iff_eq.mpr c29
                          have c29b1 : (t188 != 0) = false := bne_eq_false_iff_eq.mpr c29
                          clear c29
                          replace H := Option.bind_eq_some_iff.mp H
                          obtain ⟨t189, A300, H⟩ := H
                          replace H : (if t189 = true then ((table_Right.f k3 t175 t176).bind fun t190 => (remontoirlaw13_TableBack.j3 k3 (!t190) a1_0 l1_1)) else (remontoirlaw13_TableBack.j3 k3 true a1_0 l1_1)) = some true := H
                          have A30 := Aside0.mk A300
                          clear A300
                          by_cases c31 : t189 = true
                          · subst c31
                            have H1 : ((table_Right.f k3 t175 t176).bind fun t190 => (remontoirlaw13_TableBack.j3 k3 (!t190) a1_0 l1_1)) = some true := by rw [if_pos rfl] at H; exact H
                            clear H
                            have H := H1
                            clear H1
                            replace H := Option.bind_eq_some_iff.mp H
                            obtain ⟨t190, A320, H⟩ := H
                            replace H : (remontoirlaw13_TableBack.j3 k3 (!t190) a1_0 l1_1) = some true := H
                            have A32 := Aside0.mk A320
                            clear A320
                            have H' := Aside0.mk H
                            clear H
                            obtain ⟨Ao33, co33, eo33⟩ := Kd.R_slice HO187.out
                            subst eo33
                            go_wp2_with (first | (go_at_call 19; (with_reducible refine (remontoirref05_SameInts.calls k3 _ _ t185 _ _ l0 true _ ?side1 ?side2 ?side3 ?side4 A30.out).mono ?_); (case side1 => repeat (first | exact (Kd.R_reads' HO187.out).2.2 | (with_reducible refine Kd.C_alloc ?_ _) | (with_reducible refine Kd.C_drewN ?_ _) | (with_reducible refine Kd.C_drew ?_))); (case side2 => exact (Kd.R_reads' HO187.out).2.1); (case side3 => repeat (first | exact (Kd.C_below HR0.out HB.out) | (with_reducible refine Kd.C_alloc ?_ _) | (with_reducible refine Kd.C_drewN ?_ _) | (with_reducible refine Kd.C_drew ?_))); (case side4 => exact HC0.out); rintro e w' ⟨rfl, ⟨nd, rfl⟩⟩; have hnb34 := NB180_173.out; have hnc34 := NB173_180.out; have hcz35_0 : w27.cell? ⟨gb180, 0, none⟩ = some (.int .i64 t175) := (blk_cell BK180.out 0).trans rfl; have hcz35_1 : w27.cell? ⟨gb180, 1, none⟩ = some (.slice Ao16 t176.length co16) := (blk_cell BK180.out 1).trans rfl; have hfz35_0 := blk_frozen BK180.out 0; have hfz35_1 := blk_frozen BK180.out 1) | (go_at_call 16; (with_reducible refine (table_Right.calls k3 t175 _ _ t176 t190 _ ?side1 ?side2 A32.out).mono ?_); (case side1 => repeat (first | exact (Kd.R_reads' HO_181001.out).2.2 | (with_reducible refine Kd.C_alloc ?_ _) | (with_reducible refine Kd.C_drewN ?_ _) | (with_reducible refine Kd.C_drew ?_))); (case side2 => exact (Kd.R_reads' HO_181001.out).2.1); rintro e w36 ⟨rfl, hb⟩; have n0_ := Aside0.mk (Kd.R_below (by (with_reducible repeat (first | apply Kd.R_alloc | apply Kd.R_drewN | apply Kd.R_drew)); exact HO_181001.out) hb); have n1_ := Aside0.mk (Kd.R_below (by (with_reducible repeat (first | apply Kd.R_alloc | apply Kd.R_drewN | apply Kd.R_drew)); exact HO187.out) hb); have n2_ := Aside0.mk (blk_below (g := gb173) (o := .cells #[.int .i64 a1_0, .slice A1_1 l1_1.length c1_1] 24 (0, 0)) (by (with_reducible repeat (first | refine blk_drewN ?_ _ | refine blk_drew ?_ | refine blk_alloc ?_ _)); exact BK173.out) hb); have n3_ := Aside0.mk (blk_below (g := gb180) (o := .cells #[.int .i64 t175, .slice Ao16 t176.length co16] 24 (0, 0)) (by (with_reducible repeat (first | refine blk_drewN ?_ _ | refine blk_drew ?_ | refine blk_alloc ?_ _)); exact BK180.out) hb); have n4_ := Aside0.mk (below_step (by repeat (first | (with_reducible first | exact HB.out | apply below_alloc | apply pw_below_drewN | apply below_drew1 | refine below_set ?_ GE173.out | refine below_set ?_ GE180.out) | exact HB.out)) hb); clear HO_181001; clear HO187; clear BK173; clear BK180; clear HB; have HO_181001 := n0_; have HO187 := n1_; have BK173 := n2_; have BK180 := n3_; have HB := n4_; clear n0_ n1_ n2_ n3_ n4_; (try clear hb); (try clear hb2); (try clear hk); (try clear hi)))
                            go_meet
                            case rel => exact ⟨_, (!t190), (by first | rfl | (simp; done) | (simp [*]; done)), H', ⟨by have := HJ2.out; have := HJ10.out; have := HK3.out; first | omega | exact Nat.le_refl _⟩, ⟨by (with_reducible repeat (first | apply Kd.R_alloc | apply Kd.R_drewN | apply Kd.R_drew)); exact HO_181001.out⟩, ⟨by (with_reducible repeat (first | refine blk_drewN ?_ _ | refine blk_drew ?_ | refine blk_alloc ?_ _)); exact BK173.out⟩, ⟨by (with_reducible repeat (first | refine blk_drewN ?_ _ | refine blk_drew ?_ | refine blk_alloc ?_ _)); exact BK180.out⟩, ⟨by repeat (first | (with_reducible first | exact HB.out | apply below_alloc | apply pw_below_drewN | apply below_drew1 | refine below_set ?_ GE173.out | refine below_set ?_ GE180.out) | exact HB.out)⟩⟩
                          · replace c31 := Bool.eq_false_iff.mpr c31
                            subst c31
                            have H1 : (remontoirlaw13_TableBack.j3 k3 true a1_0 l1_1) = some true := by rw [if_neg (show ¬ (false = true) by decide)] at H; exact H
                            clear H
                            have H := H1
                            clear H1
                            have H' := Aside0.mk H
                            clear H
                            obtain ⟨Ao37, co37, eo37⟩ := Kd.R_slice HO187.out
                            subst eo37
                            go_wp2_with (first | (go_at_call 19; (with_reducible refine (remontoirref05_SameInts.calls k3 _ _ t185 _ _ l0 false _ ?side1 ?side2 ?side3 ?side4 A30.out).mono ?_); (case side1 => repeat (first | exact (Kd.R_reads' HO187.out).2.2 | (with_reducible refine Kd.C_alloc ?_ _) | (with_reducible refine Kd.C_drewN ?_ _) | (with_reducible refine Kd.C_drew ?_))); (case side2 => exact (Kd.R_reads' HO187.out).2.1); (case side3 => repeat (first | exact (Kd.C_below HR0.out HB.out) | (with_reducible refine Kd.C_alloc ?_ _) | (with_reducible refine Kd.C_drewN ?_ _) | (with_reducible refine Kd.C_drew ?_))); (case side4 => exact HC0.out); rintro e w' ⟨rfl, ⟨nd, rfl⟩⟩))
                            go_meet
                            case rel => exact ⟨_, (true), (by first | rfl | (simp; done) | (simp [*]; done)), H', ⟨by have := HJ2.out; have := HJ10.out; have := HK3.out; first | omega | exact Nat.le_refl _⟩, ⟨by (with_reducible repeat (first | apply Kd.R_alloc | apply Kd.R_drewN | apply Kd.R_drew)); exact HO_181001.out⟩, ⟨by (with_reducible repeat (first | refine blk_drewN ?_ _ | refine blk_drew ?_ | refine blk_alloc ?_ _)); exact BK173.out⟩, ⟨by (with_reducible repeat (first | refine blk_drewN ?_ _ | refine blk_drew ?_ | refine blk_alloc ?_ _)); exact BK180.out⟩, ⟨by repeat (first | (with_reducible first | exact HB.out | apply below_alloc | apply pw_below_drewN | apply below_drew1 | refine below_set ?_ GE173.out | refine below_set ?_ GE180.out) | exact HB.out)⟩⟩
                        · rw [if_neg c29] at H
                          have c29b0 : (t188 == 0) = false := beq_eq_false_iff_ne.mpr c29
                          have c29b1 : (t188 != 0) = true := bne_iff_ne.mpr c29
                          have H' := Aside0.mk H
                          clear H
                          go_wp2
                          go_meet
                          case rel => exact ⟨_, (true), (by first | rfl | (simp; done) | (simp [*]; done)), H', ⟨by have := HJ2.out; have := HJ10.out; have := HK3.out; first | omega | exact Nat.le_refl _⟩, ⟨by (with_reducible repeat (first | apply Kd.R_alloc | apply Kd.R_drewN | apply Kd.R_drew)); exact HO_181001.out⟩, ⟨by (with_reducible repeat (first | refine blk_drewN ?_ _ | refine blk_drew ?_ | refine blk_alloc ?_ _)); exact BK173.out⟩, ⟨by (with_reducible repeat (first | refine blk_drewN ?_ _ | refine blk_drew ?_ | refine blk_alloc ?_ _)); exact BK180.out⟩, ⟨by repeat (first | (with_reducible first | exact HB.out | apply below_alloc | apply pw_below_drewN | apply below_drew1 | refine below_set ?_ GE173.out | refine below_set ?_ GE180.out) | exact HB.out)⟩⟩
                      · rw [if_neg c28] at H
                        have c28b0 : (t179 == 0) = false := beq_eq_false_iff_ne.mpr c28
                        have c28b1 : (t179 != 0) = true := bne_iff_ne.mpr c28
                        (first | rw [c28b0] | (simp only [i64_w, i32_w]; rw [c28b0]) | rw [c28b1] | (simp only [i64_w, i32_w]; rw [c28b1]) | skip)
                        have H' := Aside0.mk H
                        clear H
                        go_wp2
                        go_meet
                        case rel => exact ⟨_, (true), (by first | rfl | (simp; done) | (simp [*]; done)), H', ⟨by have := HJ2.out; have := HJ10.out; have := HK3.out; first | omega | exact Nat.le_refl _⟩, ⟨by (with_reducible repeat (first | apply Kd.R_alloc | apply Kd.R_drewN | apply Kd.R_drew)); exact HO_181001.out⟩, ⟨by (with_reducible repeat (first | refine blk_drewN ?_ _ | refine blk_drew ?_ | refine blk_alloc ?_ _)); exact BK173.out⟩, ⟨by (with_reducible repeat (first | refine blk_drewN ?_ _ | refine blk_drew ?_ | refine blk_alloc ?_ _)); exact BK180.out⟩, ⟨by repeat (first | (with_reducible first | exact HB.out | apply below_alloc | apply pw_below_drewN | apply below_drew1 | refine below_set ?_ GE173.out | refine below_set ?_ GE180.out) | exact HB.out)⟩⟩
                    case rest =>
                      clear HC24
                      try clear c1
                      try clear p1
                      try clear q1
                      try clear hx1
                      try clear c2
                      try clear p2
                      try clear c3
                      try clear c4
                      try clear c5
                      try clear c5b0
                      try clear c5b1
                      try clear p6
                      try clear c7
                      try clear c13
                      try clear c14
                      try clear c17
                      try clear c17b0
                      try clear c17b1
                      try clear c18
                      try clear c18b0
                      try clear p18
                      try clear q18
                      try clear hx18
                      try clear c19
                      try clear c20
                      try clear c20b0
                      try clear c21
                      try clear c21b0
                      try clear c22
                      try clear c25
                      try clear c28
                      try clear c28b0
                      try clear c28b1
                      try clear c29
                      try clear c29b0
                      try clear c29b1
                      try clear c31
                      try clear c34
                      try clear hcz15_0
                      try clear hcz15_1
                      try clear hcz26_0
                      try clear hcz26_1
                      try clear hcz35_0
                      try clear hcz35_1
                      try clear hcz6_0
                      try clear hcz6_1
                      try clear hfz15_0
                      try clear hfz15_1
                      try clear hfz26_0
                      try clear hfz26_1
                      try clear hfz35_0
                      try clear hfz35_1
                      try clear hfz6_0
                      try clear hfz6_1
                      try clear hx181_0
                      try clear hx182_0
                      try clear p181
                      try clear p182
                      try clear p2
                      try clear q181
                      try clear q182
                      obtain ⟨kq, x92_23, rfl, HA, HJ23, HO_181001, BK173, BK180, HB⟩ := hcut
                      cases kq with
                      | zero => exact absurd HA.out (by simp [remontoirlaw13_TableBack.j3])
                      | succ kj23 =>
                        have H := HA.out
                        clear HA
                        simp only [remontoirlaw13_TableBack.j3] at H
                        by_cases c38 : x92_23 = true
                        · subst c38
                          have H1 : (some false) = some true := by rw [if_pos rfl] at H; exact H
                          clear H
                          have H := H1
                          clear H1
                          exact absurd H (by simp)
                        · replace c38 := Bool.eq_false_iff.mpr c38
                          subst c38
                          have H1 : ((table_Ticks.f kj23 a1_0 l1_1).bind fun bt191 => (if bt191.2 = 0 then ((table_Of.f kj23 bt191.1).bind fun bt195 => (if bt195.2.2 = 0 then ((remontoirlaw13_Same.f kj23 bt195.1 bt195.2.1 a1_0 l1_1).bind fun t201 => (if t201 = true then ((remontoirlaw13_knows.f kj23).bind fun t202 => (some t202)) else (some false))) else (some false))) else (if (bt191.1.length : Int) = 0 then ((remontoirlaw13_knows.f kj23).bind fun t203 => (some t203)) else (some false)))) = some true := by rw [if_neg (show ¬ (false = true) by decide)] at H; exact H
                          clear H
                          have H := H1
                          clear H1
                          replace H := Option.bind_eq_some_iff.mp H
                          obtain ⟨⟨t191, t194⟩, A390, H⟩ := H
                          replace H : (if t194 = 0 then ((table_Of.f kj23 t191).bind fun bt195 => (if bt195.2.2 = 0 then ((remontoirlaw13_Same.f kj23 bt195.1 bt195.2.1 a1_0 l1_1).bind fun t201 => (if t201 = true then ((remontoirlaw13_knows.f kj23).bind fun t202 => (some t202)) else (some false))) else (some false))) else (if (t191.length : Int) = 0 then ((remontoirlaw13_knows.f kj23).bind fun t203 => (some t203)) else (some false))) = some true := H
                          have A39 := Aside0.mk A390
                          clear A390
                          by_cases c40 : t194 = 0
                          · rw [if_pos c40] at H
                            have c40b0 : (t194 == 0) = true := beq_iff_eq.mpr c40
                            have c40b1 : (t194 != 0) = false := bne_eq_false_iff_eq.mpr c40
                            clear c40
                            replace H := Option.bind_eq_some_iff.mp H
                            obtain ⟨⟨t195, t196, t199⟩, A410, H⟩ := H
                            replace H : (if t199 = 0 then ((remontoirlaw13_Same.f kj23 t195 t196 a1_0 l1_1).bind fun t201 => (if t201 = true then ((remontoirlaw13_knows.f kj23).bind fun t202 => (some t202)) else (some false))) else (some false)) = some true := H
                            have A41 := Aside0.mk A410
                            clear A410
                            by_cases c42 : t199 = 0
                            · rw [if_pos c42] at H
                              have c42b0 : (t199 == 0) = true := beq_iff_eq.mpr c42
                              have c42b1 : (t199 != 0) = false := bne_eq_false_iff_eq.mpr c42
                              clear c42
                              replace H := Option.bind_eq_some_iff.mp H
                              obtain ⟨t201, A430, H⟩ := H
                              replace H : (if t201 = true then ((remontoirlaw13_knows.f kj23).bind fun t202 => (some t202)) else (some false)) = some true := H
                              have A43 := Aside0.mk A430
                              clear A430
                              by_cases c44 : t201 = true
                              · subst c44
                                have H1 : ((remontoirlaw13_knows.f kj23).bind fun t202 => (some t202)) = some true := by rw [if_pos rfl] at H; exact H
                                clear H
                                have H := H1
                                clear H1
                                replace H := Option.bind_eq_some_iff.mp H
                                obtain ⟨t202, A450, H⟩ := H
                                replace H : (some t202) = some true := H
                                have A45 := Aside0.mk A450
                                clear A450
                                have HR_ := Aside0.mk (Option.some.inj H)
                                clear H
                                have hnb46 := NB173_180.out
                                have hnc46 := NB180_173.out
                                have hcz47_0 : wc.cell? ⟨gb173, 0, none⟩ = some (.int .i64 a1_0) := (blk_cell BK173.out 0).trans rfl
                                have hcz47_1 : wc.cell? ⟨gb173, 1, none⟩ = some (.slice A1_1 l1_1.length c1_1) := (blk_cell BK173.out 1).trans rfl
                                have hfz47_0 := blk_frozen BK173.out 0
                                have hfz47_1 := blk_frozen BK173.out 1
                                go_wp2_with (first | ((with_reducible refine gate_callee (f := 14) rfl ?_); refine goesL_ (some 95) rfl rfl Try.func14 (by kernel_rfl) rfl #[.agg #[.int .i64 a1_0, .slice A1_1 l1_1.length c1_1]] rfl (by (try simp only [List.map_toArray, List.map_cons, List.map_nil]); first | done | rfl | (simp only [List.length_drop, List.length_take]; rfl)) ?_; (with_reducible refine (table_Ticks.calls kj23 a1_0 _ _ l1_1 t191 t194 _ ?side1 ?side2 A39.out).mono ?_); (case side1 => repeat (first | exact (Kd.C_below HR1_1.out HB.out) | (with_reducible refine Kd.C_alloc ?_ _) | (with_reducible refine Kd.C_drewN ?_ _) | (with_reducible refine Kd.C_drew ?_))); (case side2 => exact HC1_1.out); rintro e w48 ⟨v192, rfl, ho0, hb⟩; refine ⟨_, rfl, ?_⟩; have n0_ := Aside0.mk (Kd.R_below (by (with_reducible repeat (first | apply Kd.R_alloc | apply Kd.R_drewN | apply Kd.R_drew)); exact HO_181001.out) hb); have n1_ := Aside0.mk (Kd.R_lower ho0 (below_size (by repeat (first | (with_reducible first | exact HB.out | apply below_alloc | apply pw_below_drewN | apply below_drew1 | refine below_set ?_ GE173.out | refine below_set ?_ GE180.out) | exact HB.out)))); have n2_ := Aside0.mk (blk_below (g := gb173) (o := .cells #[.int .i64 a1_0, .slice A1_1 l1_1.length c1_1] 24 (0, 0)) (by (with_reducible repeat (first | refine blk_drewN ?_ _ | refine blk_drew ?_ | refine blk_alloc ?_ _)); exact BK173.out) hb); have n3_ := Aside0.mk (blk_below (g := gb180) (o := .cells #[.int .i64 t175, .slice Ao16 t176.length co16] 24 (0, 0)) (by (with_reducible repeat (first | refine blk_drewN ?_ _ | refine blk_drew ?_ | refine blk_alloc ?_ _)); exact BK180.out) hb); have n4_ := Aside0.mk (below_step (by repeat (first | (with_reducible first | exact HB.out | apply below_alloc | apply pw_below_drewN | apply below_drew1 | refine below_set ?_ GE173.out | refine below_set ?_ GE180.out) | exact HB.out)) hb); clear HO_181001; clear BK173; clear BK180; clear HB; have HO_181001 := n0_; have HO193 := n1_; have BK173 := n2_; have BK180 := n3_; have HB := n4_; clear n0_ n1_ n2_ n3_ n4_; (try clear hb); (try clear hb2); (try clear hk); (try clear hi); (try clear ho0); obtain ⟨Ao49, co49, eo49⟩ := Kd.R_slice HO193.out; subst eo49) | ((with_reducible refine gate_callee (f := 21) rfl ?_); refine goesL_ (some 108) rfl rfl Try.func21 (by kernel_rfl) rfl #[.slice Ao49 t191.length co49] rfl (by (try simp only [List.map_toArray, List.map_cons, List.map_nil]); first | done | rfl | (simp only [List.length_drop, List.length_take]; rfl)) ?_; (with_reducible refine (table_Of.calls kj23 _ _ t191 t195 t196 t199 _ ?side1 ?side2 A41.out).mono ?_); (case side1 => repeat (first | exact (Kd.R_reads' HO193.out).2.2 | (with_reducible refine Kd.C_alloc ?_ _) | (with_reducible refine Kd.C_drewN ?_ _) | (with_reducible refine Kd.C_drew ?_))); (case side2 => exact (Kd.R_reads' HO193.out).2.1); rintro e w50 ⟨v197, rfl, ho0, hb⟩; refine ⟨_, rfl, ?_⟩; have n0_ := Aside0.mk (Kd.R_elder' (by (with_reducible repeat (first | apply Kd.R_alloc | apply Kd.R_drewN | apply Kd.R_drew)); exact HO_181001.out) (Kd.R_base ho0) hb); have n1_ := Aside0.mk (Kd.R_below (by (with_reducible repeat (first | apply Kd.R_alloc | apply Kd.R_drewN | apply Kd.R_drew)); exact HO193.out) hb); have n2_ := Aside0.mk (Kd.R_lower (Kd.R_new' ho0 (Kd.R_lt (by (with_reducible repeat (first | apply Kd.R_alloc | apply Kd.R_drewN | apply Kd.R_drew)); exact HO_181001.out))) (below_size (by repeat (first | (with_reducible first | exact HB.out | apply below_alloc | apply pw_below_drewN | apply below_drew1 | refine below_set ?_ GE173.out | refine below_set ?_ GE180.out) | exact HB.out)))); have n3_ := Aside0.mk (blk_below (g := gb173) (o := .cells #[.int .i64 a1_0, .slice A1_1 l1_1.length c1_1] 24 (0, 0)) (by (with_reducible repeat (first | refine blk_drewN ?_ _ | refine blk_drew ?_ | refine blk_alloc ?_ _)); exact BK173.out) hb); have n4_ := Aside0.mk (blk_below (g := gb180) (o := .cells #[.int .i64 t175, .slice Ao16 t176.length co16] 24 (0, 0)) (by (with_reducible repeat (first | refine blk_drewN ?_ _ | refine blk_drew ?_ | refine blk_alloc ?_ _)); exact BK180.out) hb); have n5_ := Aside0.mk (below_step (by repeat (first | (with_reducible first | exact HB.out | apply below_alloc | apply pw_below_drewN | apply below_drew1 | refine below_set ?_ GE173.out | refine below_set ?_ GE180.out) | exact HB.out)) hb); clear HO_181001; clear HO193; clear BK173; clear BK180; clear HB; have HO_181001 := n0_; have HO193 := n1_; have HO198 := n2_; have BK173 := n3_; have BK180 := n4_; have HB := n5_; clear n0_ n1_ n2_ n3_ n4_ n5_; (try clear hb); (try clear hb2); (try clear hk); (try clear hi); (try clear ho0)) | ((with_reducible refine gate_dst (N := 13) rfl ?_); (try (refine gate_guard (by rfl) ?_; dsimp only)); refine box_event ?hg (N := 13) ?hd (cs := #[.int .i64 0, .slice none 0 0]) (t := 24) ?hr ?_; (case hd => rfl); (case hg => rfl); (case hr => first | (go_simp; done) | (go_simp; rfl)); intro gb200 hg w51 hbox hb; have n0_ := Aside0.mk (Kd.R_below (by (with_reducible repeat (first | apply Kd.R_alloc | apply Kd.R_drewN | apply Kd.R_drew)); exact HO_181001.out) hb); have n1_ := Aside0.mk (Kd.R_below (by (with_reducible repeat (first | apply Kd.R_alloc | apply Kd.R_drewN | apply Kd.R_drew)); exact HO193.out) hb); have n2_ := Aside0.mk (Kd.R_below (by (with_reducible repeat (first | apply Kd.R_alloc | apply Kd.R_drewN | apply Kd.R_drew)); exact HO198.out) hb); have n3_ := Aside0.mk (blk_below (g := gb173) (o := .cells #[.int .i64 a1_0, .slice A1_1 l1_1.length c1_1] 24 (0, 0)) (by (with_reducible repeat (first | refine blk_drewN ?_ _ | refine blk_drew ?_ | refine blk_alloc ?_ _)); exact BK173.out) hb); have n4_ := Aside0.mk (blk_below (g := gb180) (o := .cells #[.int .i64 t175, .slice Ao16 t176.length co16] 24 (0, 0)) (by (with_reducible repeat (first | refine blk_drewN ?_ _ | refine blk_drew ?_ | refine blk_alloc ?_ _)); exact BK180.out) hb); have n5_ := Aside0.mk (below_step (by repeat (first | (with_reducible first | exact HB.out | apply below_alloc | apply pw_below_drewN | apply below_drew1 | refine below_set ?_ GE173.out | refine below_set ?_ GE180.out) | exact HB.out)) hb); have n6_ := Aside0.mk (hbox); have n7_ := Aside0.mk ((by rw [hg]; exact (below_size (by repeat (first | (with_reducible first | exact HB.out | apply below_alloc | apply pw_below_drewN | apply below_drew1 | refine below_set ?_ GE173.out | refine below_set ?_ GE180.out) | exact HB.out))) : w.heap.size ≤ gb200)); have n8_ := Aside0.mk ((by rw [hg]; exact (below_size (by repeat (first | (with_reducible first | exact HB.out | apply below_alloc | apply pw_below_drewN | apply below_drew1 | refine below_set ?_ GE173.out | refine below_set ?_ GE180.out) | exact HB.out))) : w.heap.size ≤ gb200)); have n9_ := Aside0.mk ((by rw [hg]; exact Nat.ne_of_lt (blk_lt (g := gb173) (o := .cells #[.int .i64 a1_0, .slice A1_1 l1_1.length c1_1] 24 (0, 0)) (by (with_reducible repeat (first | refine blk_drewN ?_ _ | refine blk_drew ?_ | refine blk_alloc ?_ _)); exact BK173.out)) : gb173 ≠ gb200)); have n10_ := Aside0.mk ((by rw [hg]; exact Nat.ne_of_gt (blk_lt (g := gb173) (o := .cells #[.int .i64 a1_0, .slice A1_1 l1_1.length c1_1] 24 (0, 0)) (by (with_reducible repeat (first | refine blk_drewN ?_ _ | refine blk_drew ?_ | refine blk_alloc ?_ _)); exact BK173.out)) : gb200 ≠ gb173)); have n11_ := Aside0.mk ((by rw [hg]; exact Nat.ne_of_lt (blk_lt (g := gb180) (o := .cells #[.int .i64 t175, .slice Ao16 t176.length co16] 24 (0, 0)) (by (with_reducible repeat (first | refine blk_drewN ?_ _ | refine blk_drew ?_ | refine blk_alloc ?_ _)); exact BK180.out)) : gb180 ≠ gb200)); have n12_ := Aside0.mk ((by rw [hg]; exact Nat.ne_of_gt (blk_lt (g := gb180) (o := .cells #[.int .i64 t175, .slice Ao16 t176.length co16] 24 (0, 0)) (by (with_reducible repeat (first | refine blk_drewN ?_ _ | refine blk_drew ?_ | refine blk_alloc ?_ _)); exact BK180.out)) : gb200 ≠ gb180)); clear HO_181001; clear HO193; clear HO198; clear BK173; clear BK180; clear HB; have HO_181001 := n0_; have HO193 := n1_; have HO198 := n2_; have BK173 := n3_; have BK180 := n4_; have HB := n5_; have BK200 := n6_; have GW200 := n7_; have GE200 := n8_; have NB173_200 := n9_; have NB200_173 := n10_; have NB180_200 := n11_; have NB200_180 := n12_; clear n0_ n1_ n2_ n3_ n4_ n5_ n6_ n7_ n8_ n9_ n10_ n11_ n12_; clear hb hbox hg; have hnb52 := NB200_173.out; have hnc52 := NB173_200.out; have hnb53 := NB200_180.out; have hnc53 := NB180_200.out; have hcz54_0 : w51.cell? ⟨gb200, 0, none⟩ = some (.int .i64 0) := (blk_cell BK200.out 0).trans rfl; have hcz54_1 : w51.cell? ⟨gb200, 1, none⟩ = some (.slice none 0 0) := (blk_cell BK200.out 1).trans rfl; have hfz54_0 := blk_frozen BK200.out 0; have hfz54_1 := blk_frozen BK200.out 1; obtain ⟨Ao55, co55, eo55⟩ := Kd.R_slice HO198.out; subst eo55; have hcz56_0 : w51.cell? ⟨gb173, 0, none⟩ = some (.int .i64 a1_0) := (blk_cell BK173.out 0).trans rfl; have hcz56_1 : w51.cell? ⟨gb173, 1, none⟩ = some (.slice A1_1 l1_1.length c1_1) := (blk_cell BK173.out 1).trans rfl; have hfz56_0 := blk_frozen BK173.out 0; have hfz56_1 := blk_frozen BK173.out 1) | (go_at_call 22; (with_reducible refine (remontoirlaw13_Same.calls kj23 t195 _ _ t196 a1_0 _ _ l1_1 true _ ?side1 ?side2 ?side3 ?side4 A43.out).mono ?_); (case side1 => refine (Kd.R_reads' (e := 46) (base := w.heap.size) (ok := fun k_ => (True ∧ some k_ ≠ (.slice Ao16 t176.length co16 : Value).ownBlock)) (n := t196.length) (c := co55) ?_).2.2; exact (by (with_reducible repeat (first | apply Kd.R_alloc | apply Kd.R_drewN | apply Kd.R_drew)); exact (Kd.R_mono (Kd.R_far (p := ⟨gb200, 1, none⟩) (Kd.R_far (p := ⟨gb200, 0, none⟩) (Kd.R_types HO198.out BK200.out (by decide)) (fun _ hk => hk.2) (.int .i64 t195)) (fun _ hk => hk.2) (.slice Ao55 t196.length co55)) (fun _ h_ => h_.1)))); (case side2 => exact (Kd.R_reads' HO198.out).2.1); (case side3 => exact Kd.C_below HR1_1.out (by repeat (first | (with_reducible first | exact HB.out | apply below_alloc | apply pw_below_drewN | apply below_drew1 | refine below_set ?_ GE173.out | refine below_set ?_ GE180.out | refine below_set ?_ GE200.out) | exact HB.out))); (case side4 => exact HC1_1.out); rintro e w57 ⟨rfl, hb⟩; have n0_ := Aside0.mk (Kd.R_below (by (with_reducible repeat (first | apply Kd.R_alloc | apply Kd.R_drewN | apply Kd.R_drew)); exact (Kd.R_mono (Kd.R_far (p := ⟨gb200, 1, none⟩) (Kd.R_far (p := ⟨gb200, 0, none⟩) (Kd.R_types HO_181001.out BK200.out (by decide)) (fun _ hk => hk.2) (.int .i64 t195)) (fun _ hk => hk.2) (.slice Ao55 t196.length co55)) (fun _ h_ => h_.1))) hb); have n1_ := Aside0.mk (Kd.R_below (by (with_reducible repeat (first | apply Kd.R_alloc | apply Kd.R_drewN | apply Kd.R_drew)); exact (Kd.R_mono (Kd.R_far (p := ⟨gb200, 1, none⟩) (Kd.R_far (p := ⟨gb200, 0, none⟩) (Kd.R_types HO193.out BK200.out (by decide)) (fun _ hk => hk.2) (.int .i64 t195)) (fun _ hk => hk.2) (.slice Ao55 t196.length co55)) (fun _ h_ => h_.1))) hb); have n2_ := Aside0.mk (Kd.R_below (by (with_reducible repeat (first | apply Kd.R_alloc | apply Kd.R_drewN | apply Kd.R_drew)); exact (Kd.R_mono (Kd.R_far (p := ⟨gb200, 1, none⟩) (Kd.R_far (p := ⟨gb200, 0, none⟩) (Kd.R_types HO198.out BK200.out (by decide)) (fun _ hk => hk.2) (.int .i64 t195)) (fun _ hk => hk.2) (.slice Ao55 t196.length co55)) (fun _ h_ => h_.1))) hb); have n3_ := Aside0.mk (blk_below (g := gb173) (o := .cells #[.int .i64 a1_0, .slice A1_1 l1_1.length c1_1] 24 (0, 0)) (by (with_reducible repeat (first | refine blk_drewN ?_ _ | refine blk_drew ?_ | refine blk_alloc ?_ _)); refine blk_far ?_ NB173_200.out _; (with_reducible repeat (first | refine blk_drewN ?_ _ | refine blk_drew ?_ | refine blk_alloc ?_ _)); refine blk_far ?_ NB173_200.out _; (with_reducible repeat (first | refine blk_drewN ?_ _ | refine blk_drew ?_ | refine blk_alloc ?_ _)); exact BK173.out) hb); have n4_ := Aside0.mk (blk_below (g := gb180) (o := .cells #[.int .i64 t175, .slice Ao16 t176.length co16] 24 (0, 0)) (by (with_reducible repeat (first | refine blk_drewN ?_ _ | refine blk_drew ?_ | refine blk_alloc ?_ _)); refine blk_far ?_ NB180_200.out _; (with_reducible repeat (first | refine blk_drewN ?_ _ | refine blk_drew ?_ | refine blk_alloc ?_ _)); refine blk_far ?_ NB180_200.out _; (with_reducible repeat (first | refine blk_drewN ?_ _ | refine blk_drew ?_ | refine blk_alloc ?_ _)); exact BK180.out) hb); have n5_ := Aside0.mk (blk_below (g := gb200) (o := .cells #[.int .i64 t195, .slice Ao55 t196.length co55] 24 (0, 0)) (by (with_reducible repeat (first | refine blk_drewN ?_ _ | refine blk_drew ?_ | refine blk_alloc ?_ _)); refine blk_put (cs := #[.int .i64 t195, .slice none 0 0]) ?_ 1 _ rfl; (with_reducible repeat (first | refine blk_drewN ?_ _ | refine blk_drew ?_ | refine blk_alloc ?_ _)); refine blk_put (cs := #[.int .i64 0, .slice none 0 0]) ?_ 0 _ rfl; (with_reducible repeat (first | refine blk_drewN ?_ _ | refine blk_drew ?_ | refine blk_alloc ?_ _)); exact BK200.out) hb); have n6_ := Aside0.mk (below_step (by repeat (first | (with_reducible first | exact HB.out | apply below_alloc | apply pw_below_drewN | apply below_drew1 | refine below_set ?_ GE173.out | refine below_set ?_ GE180.out | refine below_set ?_ GE200.out) | exact HB.out)) hb); clear HO_181001; clear HO193; clear HO198; clear BK173; clear BK180; clear BK200; clear HB; have HO_181001 := n0_; have HO193 := n1_; have HO198 := n2_; have BK173 := n3_; have BK180 := n4_; have BK200 := n5_; have HB := n6_; clear n0_ n1_ n2_ n3_ n4_ n5_ n6_; (try clear hb); (try clear hb2); (try clear hk); (try clear hi)) | (go_at_call 13; (with_reducible refine (remontoirlaw13_knows.calls kj23  t202 _ A45.out).mono ?_); rintro e w58 ⟨rfl, hb⟩; have n0_ := Aside0.mk (Kd.R_below (by (with_reducible repeat (first | apply Kd.R_alloc | apply Kd.R_drewN | apply Kd.R_drew)); exact HO_181001.out) hb); have n1_ := Aside0.mk (Kd.R_below (by (with_reducible repeat (first | apply Kd.R_alloc | apply Kd.R_drewN | apply Kd.R_drew)); exact HO193.out) hb); have n2_ := Aside0.mk (Kd.R_below (by (with_reducible repeat (first | apply Kd.R_alloc | apply Kd.R_drewN | apply Kd.R_drew)); exact HO198.out) hb); have n3_ := Aside0.mk (blk_below (g := gb173) (o := .cells #[.int .i64 a1_0, .slice A1_1 l1_1.length c1_1] 24 (0, 0)) (by (with_reducible repeat (first | refine blk_drewN ?_ _ | refine blk_drew ?_ | refine blk_alloc ?_ _)); exact BK173.out) hb); have n4_ := Aside0.mk (blk_below (g := gb180) (o := .cells #[.int .i64 t175, .slice Ao16 t176.length co16] 24 (0, 0)) (by (with_reducible repeat (first | refine blk_drewN ?_ _ | refine blk_drew ?_ | refine blk_alloc ?_ _)); exact BK180.out) hb); have n5_ := Aside0.mk (blk_below (g := gb200) (o := .cells #[.int .i64 t195, .slice Ao55 t196.length co55] 24 (0, 0)) (by (with_reducible repeat (first | refine blk_drewN ?_ _ | refine blk_drew ?_ | refine blk_alloc ?_ _)); exact BK200.out) hb); have n6_ := Aside0.mk (below_step (by repeat (first | (with_reducible first | exact HB.out | apply below_alloc | apply pw_below_drewN | apply below_drew1 | refine below_set ?_ GE173.out | refine below_set ?_ GE180.out | refine below_set ?_ GE200.out) | exact HB.out)) hb); clear HO_181001; clear HO193; clear HO198; clear BK173; clear BK180; clear BK200; clear HB; have HO_181001 := n0_; have HO193 := n1_; have HO198 := n2_; have BK173 := n3_; have BK180 := n4_; have BK200 := n5_; have HB := n6_; clear n0_ n1_ n2_ n3_ n4_ n5_ n6_; (try clear hb); (try clear hb2); (try clear hk); (try clear hi)))
                                go_ret
                                exact ⟨by first | rfl | (rw [HR_.out] <;> rfl) | (simp [errW_none, errW_some] <;> rfl) | (simp [*, errW_none, errW_some] <;> rfl), by repeat (first | (with_reducible first | exact HB.out | apply below_alloc | apply pw_below_drewN | apply below_drew1 | refine below_set ?_ GE173.out | refine below_set ?_ GE180.out | refine below_set ?_ GE200.out) | exact HB.out)⟩
                              · replace c44 := Bool.eq_false_iff.mpr c44
                                subst c44
                                have H1 : (some false) = some true := by rw [if_neg (show ¬ (false = true) by decide)] at H; exact H
                                clear H
                                have H := H1
                                clear H1
                                exact absurd H (by simp)
                            · rw [if_neg c42] at H
                              have c42b0 : (t199 == 0) = false := beq_eq_false_iff_ne.mpr c42
                              have c42b1 : (t199 != 0) = true := bne_iff_ne.mpr c42
                              exact absurd H (by simp)
                          · rw [if_neg c40] at H
                            have c40b0 : (t194 == 0) = false := beq_eq_false_iff_ne.mpr c40
                            have c40b1 : (t194 != 0) = true := bne_iff_ne.mpr c40
                            by_cases c59 : (t191.length : Int) = 0
                            · rw [if_pos c59] at H
                              have c59b0 : ((t191.length : Int) == 0) = true := beq_iff_eq.mpr c59
                              have c59b1 : ((t191.length : Int) != 0) = false := bne_eq_false_iff_eq.mpr c59
                              clear c59
                              replace H := Option.bind_eq_some_iff.mp H
                              obtain ⟨t203, A600, H⟩ := H
                              replace H : (some t203) = some true := H
                              have A60 := Aside0.mk A600
                              clear A600
                              have HR_ := Aside0.mk (Option.some.inj H)
                              clear H
                              have hnb61 := NB173_180.out
                              have hnc61 := NB180_173.out
                              have hcz62_0 : wc.cell? ⟨gb173, 0, none⟩ = some (.int .i64 a1_0) := (blk_cell BK173.out 0).trans rfl
                              have hcz62_1 : wc.cell? ⟨gb173, 1, none⟩ = some (.slice A1_1 l1_1.length c1_1) := (blk_cell BK173.out 1).trans rfl
                              have hfz62_0 := blk_frozen BK173.out 0
                              have hfz62_1 := blk_frozen BK173.out 1
                              go_wp2_with (first | ((with_reducible refine gate_callee (f := 14) rfl ?_); refine goesL_ (some 95) rfl rfl Try.func14 (by kernel_rfl) rfl #[.agg #[.int .i64 a1_0, .slice A1_1 l1_1.length c1_1]] rfl (by (try simp only [List.map_toArray, List.map_cons, List.map_nil]); first | done | rfl | (simp only [List.length_drop, List.length_take]; rfl)) ?_; (with_reducible refine (table_Ticks.calls kj23 a1_0 _ _ l1_1 t191 t194 _ ?side1 ?side2 A39.out).mono ?_); (case side1 => repeat (first | exact (Kd.C_below HR1_1.out HB.out) | (with_reducible refine Kd.C_alloc ?_ _) | (with_reducible refine Kd.C_drewN ?_ _) | (with_reducible refine Kd.C_drew ?_))); (case side2 => exact HC1_1.out); rintro e w63 ⟨v192, rfl, ho0, hb⟩; refine ⟨_, rfl, ?_⟩; have n0_ := Aside0.mk (Kd.R_below (by (with_reducible repeat (first | apply Kd.R_alloc | apply Kd.R_drewN | apply Kd.R_drew)); exact HO_181001.out) hb); have n1_ := Aside0.mk (Kd.R_lower ho0 (below_size (by repeat (first | (with_reducible first | exact HB.out | apply below_alloc | apply pw_below_drewN | apply below_drew1 | refine below_set ?_ GE173.out | refine below_set ?_ GE180.out) | exact HB.out)))); have n2_ := Aside0.mk (blk_below (g := gb173) (o := .cells #[.int .i64 a1_0, .slice A1_1 l1_1.length c1_1] 24 (0, 0)) (by (with_reducible repeat (first | refine blk_drewN ?_ _ | refine blk_drew ?_ | refine blk_alloc ?_ _)); exact BK173.out) hb); have n3_ := Aside0.mk (blk_below (g := gb180) (o := .cells #[.int .i64 t175, .slice Ao16 t176.length co16] 24 (0, 0)) (by (with_reducible repeat (first | refine blk_drewN ?_ _ | refine blk_drew ?_ | refine blk_alloc ?_ _)); exact BK180.out) hb); have n4_ := Aside0.mk (below_step (by repeat (first | (with_reducible first | exact HB.out | apply below_alloc | apply pw_below_drewN | apply below_drew1 | refine below_set ?_ GE173.out | refine below_set ?_ GE180.out) | exact HB.out)) hb); clear HO_181001; clear BK173; clear BK180; clear HB; have HO_181001 := n0_; have HO193 := n1_; have BK173 := n2_; have BK180 := n3_; have HB := n4_; clear n0_ n1_ n2_ n3_ n4_; (try clear hb); (try clear hb2); (try clear hk); (try clear hi); (try clear ho0); obtain ⟨Ao64, co64, eo64⟩ := Kd.R_slice HO193.out; subst eo64) | (go_at_call 13; (with_reducible refine (remontoirlaw13_knows.calls kj23  t203 _ A60.out).mono ?_); rintro e w65 ⟨rfl, hb⟩; have n0_ := Aside0.mk (Kd.R_below (by (with_reducible repeat (first | apply Kd.R_alloc | apply Kd.R_drewN | apply Kd.R_drew)); exact HO_181001.out) hb); have n1_ := Aside0.mk (Kd.R_below (by (with_reducible repeat (first | apply Kd.R_alloc | apply Kd.R_drewN | apply Kd.R_drew)); exact HO193.out) hb); have n2_ := Aside0.mk (blk_below (g := gb173) (o := .cells #[.int .i64 a1_0, .slice A1_1 l1_1.length c1_1] 24 (0, 0)) (by (with_reducible repeat (first | refine blk_drewN ?_ _ | refine blk_drew ?_ | refine blk_alloc ?_ _)); exact BK173.out) hb); have n3_ := Aside0.mk (blk_below (g := gb180) (o := .cells #[.int .i64 t175, .slice Ao16 t176.length co16] 24 (0, 0)) (by (with_reducible repeat (first | refine blk_drewN ?_ _ | refine blk_drew ?_ | refine blk_alloc ?_ _)); exact BK180.out) hb); have n4_ := Aside0.mk (below_step (by repeat (first | (with_reducible first | exact HB.out | apply below_alloc | apply pw_below_drewN | apply below_drew1 | refine below_set ?_ GE173.out | refine below_set ?_ GE180.out) | exact HB.out)) hb); clear HO_181001; clear HO193; clear BK173; clear BK180; clear HB; have HO_181001 := n0_; have HO193 := n1_; have BK173 := n2_; have BK180 := n3_; have HB := n4_; clear n0_ n1_ n2_ n3_ n4_; (try clear hb); (try clear hb2); (try clear hk); (try clear hi)))
                              go_ret
                              exact ⟨by first | rfl | (rw [HR_.out] <;> rfl) | (simp [errW_none, errW_some] <;> rfl) | (simp [*, errW_none, errW_some] <;> rfl), by repeat (first | (with_reducible first | exact HB.out | apply below_alloc | apply pw_below_drewN | apply below_drew1 | refine below_set ?_ GE173.out | refine below_set ?_ GE180.out) | exact HB.out)⟩
                            · rw [if_neg c59] at H
                              have c59b0 : ((t191.length : Int) == 0) = false := beq_eq_false_iff_ne.mpr c59
                              have c59b1 : ((t191.length : Int) != 0) = true := bne_iff_ne.mpr c59
                              have c59b2 : ¬ (t191 = []) := fun h_ => c59 (by rw [h_]; rfl)
                              exact absurd H (by simp)
                  · replace c22 := Bool.eq_false_iff.mpr c22
                    subst c22
                    have H1 : ((remontoirlaw13_Same.f k3 t175 t176 0 ([] : List (S46))).bind fun t183 => (if t183 = true then (if t179 = 1 then ((remontoirlaw13_knows.f k3).bind fun t184 => (some t184)) else (some false)) else (some false))) = some true := by rw [if_neg (show ¬ (false = true) by decide)] at H; exact H
                    clear H
                    have H := H1
                    clear H1
                    replace H := Option.bind_eq_some_iff.mp H
                    obtain ⟨t183, A660, H⟩ := H
                    replace H : (if t183 = true then (if t179 = 1 then ((remontoirlaw13_knows.f k3).bind fun t184 => (some t184)) else (some false)) else (some false)) = some true := H
                    have A66 := Aside0.mk A660
                    clear A660
                    by_cases c67 : t183 = true
                    · subst c67
                      have H1 : (if t179 = 1 then ((remontoirlaw13_knows.f k3).bind fun t184 => (some t184)) else (some false)) = some true := by rw [if_pos rfl] at H; exact H
                      clear H
                      have H := H1
                      clear H1
                      by_cases c68 : t179 = 1
                      · rw [if_pos c68] at H
                        have c68b0 : (t179 == 1) = true := beq_iff_eq.mpr c68
                        have c68b1 : (t179 != 1) = false := bne_eq_false_iff_eq.mpr c68
                        clear c68
                        replace H := Option.bind_eq_some_iff.mp H
                        obtain ⟨t184, A690, H⟩ := H
                        replace H : (some t184) = some true := H
                        have A69 := Aside0.mk A690
                        clear A690
                        have HR_ := Aside0.mk (Option.some.inj H)
                        clear H
                        have hnb70 := NB180_173.out
                        have hnc70 := NB173_180.out
                        have hcz71_0 : wr.cell? ⟨gb180, 0, none⟩ = some (.int .i64 t175) := (blk_cell BK180.out 0).trans rfl
                        have hcz71_1 : wr.cell? ⟨gb180, 1, none⟩ = some (.slice Ao16 t176.length co16) := (blk_cell BK180.out 1).trans rfl
                        have hfz71_0 := blk_frozen BK180.out 0
                        have hfz71_1 := blk_frozen BK180.out 1
                        go_wp2_with (first | ((with_reducible refine gate_callee (f := 22) rfl ?_); refine goesL_ (some 63) rfl rfl Try.func22 (by kernel_rfl) rfl #[.agg #[.int .i64 t175, .slice Ao16 t176.length co16], .agg #[.int .i64 0, .slice none 0 0]] rfl (by (try simp only [List.map_toArray, List.map_cons, List.map_nil]); first | done | rfl | (simp only [List.length_drop, List.length_take]; rfl)) ?_; (refine (remontoirlaw13_Same.calls k3 t175 _ _ t176 0 _ _ ([] : List (S46)) true _ ?side1 ?side2 ?side3 ?side4 A66.out).mono ?_); (case side1 => repeat (first | exact (Kd.R_reads' HO_181001.out).2.2 | (with_reducible refine Kd.C_alloc ?_ _) | (with_reducible refine Kd.C_drewN ?_ _) | (with_reducible refine Kd.C_drew ?_))); (case side2 => exact (Kd.R_reads' HO_181001.out).2.1); (case side3 => exact Kd.C_nil _ _); (case side4 => exact Nat.le_refl _); rintro e w72 ⟨rfl, hb⟩; refine ⟨_, rfl, ?_⟩; have n0_ := Aside0.mk (Kd.R_below (by (with_reducible repeat (first | apply Kd.R_alloc | apply Kd.R_drewN | apply Kd.R_drew)); exact HO_181001.out) hb); have n1_ := Aside0.mk (blk_below (g := gb173) (o := .cells #[.int .i64 a1_0, .slice A1_1 l1_1.length c1_1] 24 (0, 0)) (by (with_reducible repeat (first | refine blk_drewN ?_ _ | refine blk_drew ?_ | refine blk_alloc ?_ _)); exact BK173.out) hb); have n2_ := Aside0.mk (blk_below (g := gb180) (o := .cells #[.int .i64 t175, .slice Ao16 t176.length co16] 24 (0, 0)) (by (with_reducible repeat (first | refine blk_drewN ?_ _ | refine blk_drew ?_ | refine blk_alloc ?_ _)); exact BK180.out) hb); have n3_ := Aside0.mk (below_step (by repeat (first | (with_reducible first | exact HB.out | apply below_alloc | apply pw_below_drewN | apply below_drew1 | refine below_set ?_ GE173.out | refine below_set ?_ GE180.out) | exact HB.out)) hb); clear HO_181001; clear BK173; clear BK180; clear HB; have HO_181001 := n0_; have BK173 := n1_; have BK180 := n2_; have HB := n3_; clear n0_ n1_ n2_ n3_; (try clear hb); (try clear hb2); (try clear hk); (try clear hi)) | (go_at_call 13; (with_reducible refine (remontoirlaw13_knows.calls k3  t184 _ A69.out).mono ?_); rintro e w73 ⟨rfl, hb⟩; have n0_ := Aside0.mk (Kd.R_below (by (with_reducible repeat (first | apply Kd.R_alloc | apply Kd.R_drewN | apply Kd.R_drew)); exact HO_181001.out) hb); have n1_ := Aside0.mk (blk_below (g := gb173) (o := .cells #[.int .i64 a1_0, .slice A1_1 l1_1.length c1_1] 24 (0, 0)) (by (with_reducible repeat (first | refine blk_drewN ?_ _ | refine blk_drew ?_ | refine blk_alloc ?_ _)); exact BK173.out) hb); have n2_ := Aside0.mk (blk_below (g := gb180) (o := .cells #[.int .i64 t175, .slice Ao16 t176.length co16] 24 (0, 0)) (by (with_reducible repeat (first | refine blk_drewN ?_ _ | refine blk_drew ?_ | refine blk_alloc ?_ _)); exact BK180.out) hb); have n3_ := Aside0.mk (below_step (by repeat (first | (with_reducible first | exact HB.out | apply below_alloc | apply pw_below_drewN | apply below_drew1 | refine below_set ?_ GE173.out | refine below_set ?_ GE180.out) | exact HB.out)) hb); clear HO_181001; clear BK173; clear BK180; clear HB; have HO_181001 := n0_; have BK173 := n1_; have BK180 := n2_; have HB := n3_; clear n0_ n1_ n2_ n3_; (try clear hb); (try clear hb2); (try clear hk); (try clear hi)))
                        go_ret
                        exact ⟨by first | rfl | (rw [HR_.out] <;> rfl) | (simp [errW_none, errW_some] <;> rfl) | (simp [*, errW_none, errW_some] <;> rfl), by repeat (first | (with_reducible first | exact HB.out | apply below_alloc | apply pw_below_drewN | apply below_drew1 | refine below_set ?_ GE173.out | refine below_set ?_ GE180.out) | exact HB.out)⟩
                      · rw [if_neg c68] at H
                        have c68b0 : (t179 == 1) = false := beq_eq_false_iff_ne.mpr c68
                        have c68b1 : (t179 != 1) = true := bne_iff_ne.mpr c68
                        exact absurd H (by simp)
                    · replace c67 := Bool.eq_false_iff.mpr c67
                      subst c67
                      have H1 : (some false) = some true := by rw [if_neg (show ¬ (false = true) by decide)] at H; exact H
                      clear H
                      have H := H1
                      clear H1
                      exact absurd H (by simp)

/-- The statement of remontoirlaw13_TableBack over plain data. -/
def remontoirlaw13_TableBack.Pure : Prop := ∀ (l0 : List Int) (a1_0 : Int) (l1_1 : List (S46)), (l0.length ≤ 9223372036854775807 ∧ ∀ x ∈ l0, (Lit.int .i64 x).wf = true) → (Lit.int .i64 a1_0).wf = true → (l1_1.length ≤ 9223372036854775807 ∧ ∀ x ∈ l1_1, ((Lit.int .i64 x.f0).wf = true ∧ ((Lit.int .i64 x.f1).wf = true ∧ (Lit.int .i64 x.f2).wf = true))) → ∃ k, remontoirlaw13_TableBack.f k l0 a1_0 l1_1 = some true

end Go.Proofs.Ytkfkghnmbemdiaa.FTable
