-- Written by the session (wip/tools) for this claim: functions of the program as Lean functions, and their contracts.
import Derived.Test.YteddflcloeelhaaFRingx0
import Derived.Test.YteddflcloeelhaaFRingx2
import Derived.Test.YteddflcloeelhaaFRingx3
import Derived.Test.YteddflcloeelhaaFRingx5
import Derived.Test.YteddflcloeelhaaFRingx7
namespace Go.Proofs.Yteddflcloeelhaa.FRing
open Go.RowKit Go.Proofs.YteddflcloeelhaaW.PrintWords Go.Proofs.YteddflcloeelhaaW.PrintLast Go.Proofs.YteddflcloeelhaaW.PrintMore
attribute [local go_sem] max2_int min2_int max_two min_two max_three min_three max_four min_four   -- for this text's walks alone
set_option linter.unusedVariables false
set_option linter.unusedSimpArgs false

/-! ### remontoirlaw03_RingPuts: function 6 -/
def remontoirlaw03_RingPuts.j0 : Nat → Int → List Int → Int → Int → List Int → Int → Int → Option (Bool)
  | 0, _, _, _, _, _, _, _ => none
  | k + 1, x1, x384000, x384001, x384002, x390000, x390001, x390002 => (remontoirlaw03_As.f x384000 x384001 x384002).bind fun bt403 => ((remontoirref03_With.f k x390000 x390001 x390002 x1).bind fun bt408 => ((remontoirref03_Same.f k bt403.1 bt403.2.1 bt403.2.2 bt408.1 bt408.2.1 bt408.2.2).bind fun t413 => (if t413 = true then ((remontoirlaw03_knows.f k).bind fun t414 => (some t414)) else (some false))))
def remontoirlaw03_RingPuts.f (k : Nat) (l0_0 : List Int) (a0_1 : Int) (a0_2 : Int) (a1 : Int) : Option (Bool) := if (l0_0.length : Int) > 100 then ((remontoirlaw03_knows.f k).bind fun t377 => (some t377)) else ((ring_Put.f k l0_0 a0_1 a0_2 a1).bind fun bt378 => ((remontoirlaw03_As.f l0_0 a0_1 a0_2).bind fun bt384 => ((remontoirref03_Right.f k bt384.1 bt384.2.1 bt384.2.2).bind fun t390 => (if t390 = true then (if a0_2 = (l0_0.length : Int) then ((remontoirref03_Without.f k bt384.1 bt384.2.1 bt384.2.2).bind fun bt398 => (remontoirlaw03_RingPuts.j0 k a1 bt378.1 bt378.2.1 bt378.2.2 bt398.1 bt398.2.1 bt398.2.2)) else (remontoirlaw03_RingPuts.j0 k a1 bt378.1 bt378.2.1 bt378.2.2 bt384.1 bt384.2.1 bt384.2.2)) else ((remontoirlaw03_As.f bt378.1 bt378.2.1 bt378.2.2).bind fun bt391 => ((remontoirref03_Same.f k bt391.1 bt391.2.1 bt391.2.2 bt384.1 bt384.2.1 bt384.2.2).bind fun t396 => (if t396 = true then ((remontoirlaw03_knows.f k).bind fun t397 => (some t397)) else (some false))))))))
theorem remontoirlaw03_RingPuts.mono_l : ∀ k, (∀ y0 y1 y2 y3 y4 y5 y6, LeO (remontoirlaw03_RingPuts.j0 k y0 y1 y2 y3 y4 y5 y6) (remontoirlaw03_RingPuts.j0 (k + 1) y0 y1 y2 y3 y4 y5 y6))
  | 0 => fun _ _ _ _ _ _ _ r h => by simp [remontoirlaw03_RingPuts.j0] at h
  | k + 1 => by
    have ih0 := remontoirlaw03_RingPuts.mono_l k
    · intro y0 y1 y2 y3 y4 y5 y6
      unfold remontoirlaw03_RingPuts.j0
      repeat' first
      | (with_reducible exact ih0 _ _ _ _ _ _ _)
      | (with_reducible exact remontoirlaw03_knows.mono _)
      | (with_reducible exact remontoirref03_Right.mono _ _ _ _)
      | (with_reducible exact remontoirref03_Same.mono _ _ _ _ _ _ _)
      | (with_reducible exact remontoirref03_With.mono _ _ _ _ _)
      | (with_reducible exact remontoirref03_Without.mono _ _ _ _)
      | (with_reducible exact ring_Put.mono _ _ _ _ _)
      | (with_reducible exact LeO.refl _)
      | (with_reducible exact LeO.none _)
      | (with_reducible refine LeO.ite ?_ ?_)
      | (with_reducible refine LeO.bind ?_ (fun _ => ?_))
      | exact ih0 _ _ _ _ _ _ _
      | exact remontoirlaw03_knows.mono _
      | exact remontoirref03_Right.mono _ _ _ _
      | exact remontoirref03_Same.mono _ _ _ _ _ _ _
      | exact remontoirref03_With.mono _ _ _ _ _
      | exact remontoirref03_Without.mono _ _ _ _
      | exact ring_Put.mono _ _ _ _ _
      | exact LeO.none _
      | refine LeO.ite ?_ ?_
      | refine LeO.bind ?_ (fun _ => ?_)
theorem remontoirlaw03_RingPuts.mono : ∀ a0 a1 a2 a3 k, LeO (remontoirlaw03_RingPuts.f k a0 a1 a2 a3) (remontoirlaw03_RingPuts.f (k + 1) a0 a1 a2 a3) := by
  intro a0 a1 a2 a3 k
  have ih0 := remontoirlaw03_RingPuts.mono_l k
  unfold remontoirlaw03_RingPuts.f
  repeat' first
      | (with_reducible exact ih0 _ _ _ _ _ _ _)
      | (with_reducible exact remontoirlaw03_knows.mono _)
      | (with_reducible exact remontoirref03_Right.mono _ _ _ _)
      | (with_reducible exact remontoirref03_Same.mono _ _ _ _ _ _ _)
      | (with_reducible exact remontoirref03_With.mono _ _ _ _ _)
      | (with_reducible exact remontoirref03_Without.mono _ _ _ _)
      | (with_reducible exact ring_Put.mono _ _ _ _ _)
      | (with_reducible exact LeO.refl _)
      | (with_reducible exact LeO.none _)
      | (with_reducible refine LeO.ite ?_ ?_)
      | (with_reducible refine LeO.bind ?_ (fun _ => ?_))
      | exact ih0 _ _ _ _ _ _ _
      | exact remontoirlaw03_knows.mono _
      | exact remontoirref03_Right.mono _ _ _ _
      | exact remontoirref03_Same.mono _ _ _ _ _ _ _
      | exact remontoirref03_With.mono _ _ _ _ _
      | exact remontoirref03_Without.mono _ _ _ _
      | exact ring_Put.mono _ _ _ _ _
      | exact LeO.none _
      | refine LeO.ite ?_ ?_
      | refine LeO.bind ?_ (fun _ => ?_)
def remontoirlaw03_RingPuts.T6 : Bool × List (List Nat × List Nat) := (true, [([], []), ([0], [0]), ([], []), ([1, 2, 1], [1, 2]), ([3, 3], [3]), ([4, 4], [4]), ([4, 5], [4, 5]), ([6, 5, 0, 1, 2, 3, 4, 5, 6], [6])])
def remontoirlaw03_RingPuts.B6 : List Nat := [0, 1, 0, 7, 15, 31, 63, 127]
theorem remontoirlaw03_RingPuts.tab6 : rtab .any (opsOf Try.f6 6) = remontoirlaw03_RingPuts.T6 := by kernel_rfl
theorem remontoirlaw03_RingPuts.bits6 : waitsOk remontoirlaw03_RingPuts.T6.2 remontoirlaw03_RingPuts.B6 = true := by kernel_rfl
def remontoirlaw03_RingPuts.T9 : Bool × List (List Nat × List Nat) := (true, [([], []), ([0], [0]), ([], []), ([], []), ([2, 3, 1], [2, 3]), ([1, 4, 4], [1, 4]), ([5, 5], [5]), ([6, 6], [6]), ([6, 7], [6, 7]), ([8, 7, 0, 1, 2, 3, 4, 5, 6, 7, 8], [8])])
def remontoirlaw03_RingPuts.B9 : List Nat := [0, 1, 0, 0, 15, 31, 63, 127, 255, 511]
theorem remontoirlaw03_RingPuts.tab9 : rtab .any (opsOf Try.f6 9) = remontoirlaw03_RingPuts.T9 := by kernel_rfl
theorem remontoirlaw03_RingPuts.bits9 : waitsOk remontoirlaw03_RingPuts.T9.2 remontoirlaw03_RingPuts.B9 = true := by kernel_rfl
set_option maxHeartbeats 8000000 in
set_option maxRecDepth 100000 in
theorem remontoirlaw03_RingPuts.calls (k : Nat) (A0_0 : Option Addr) (c0_0 : Nat) (l0_0 : List Int) (a0_1 : Int) (a0_2 : Int) (a1 : Int) (w : World) (hr0_0 : Kd.C (Kd.int .i64) w A0_0 l0_0.length l0_0) (hc0_0 : l0_0.length ≤ c0_0) (h : remontoirlaw03_RingPuts.f k l0_0 a0_1 a0_2 a1 = some true) :
    Calls Try.prog 6 #[.agg #[.slice A0_0 l0_0.length c0_0, .int .i64 a0_1, .int .i64 a0_2], .int .i64 a1] w fun e w' => e = .returned (.bool true) ∧ Below w.heap.size w w' := by
  have hu24 := Try.underlying24
  have hu30 := Try.underlying30
  have HR0_0 := Aside0.mk hr0_0
  have HC0_0 := Aside0.mk hc0_0
  clear hr0_0 hc0_0
  have HB := Aside0.mk (Below.refl w.heap.size w)
  have H : (if (l0_0.length : Int) > 100 then ((remontoirlaw03_knows.f k).bind fun t377 => (some t377)) else ((ring_Put.f k l0_0 a0_1 a0_2 a1).bind fun bt378 => ((remontoirlaw03_As.f l0_0 a0_1 a0_2).bind fun bt384 => ((remontoirref03_Right.f k bt384.1 bt384.2.1 bt384.2.2).bind fun t390 => (if t390 = true then (if a0_2 = (l0_0.length : Int) then ((remontoirref03_Without.f k bt384.1 bt384.2.1 bt384.2.2).bind fun bt398 => (remontoirlaw03_RingPuts.j0 k a1 bt378.1 bt378.2.1 bt378.2.2 bt398.1 bt398.2.1 bt398.2.2)) else (remontoirlaw03_RingPuts.j0 k a1 bt378.1 bt378.2.1 bt378.2.2 bt384.1 bt384.2.1 bt384.2.2)) else ((remontoirlaw03_As.f bt378.1 bt378.2.1 bt378.2.2).bind fun bt391 => ((remontoirref03_Same.f k bt391.1 bt391.2.1 bt391.2.2 bt384.1 bt384.2.1 bt384.2.2).bind fun t396 => (if t396 = true then ((remontoirlaw03_knows.f k).bind fun t397 => (some t397)) else (some false))))))))) = some true := h
  clear h
  by_cases c3 : (l0_0.length : Int) > 100
  · rw [if_pos c3] at H
    have c3b0 : decide (100 < (l0_0.length : Int)) = true := decide_eq_true c3
    have c3b1 : decide (100 < l0_0.length) = true := decide_eq_true (by omega)
    clear c3
    replace H := Option.bind_eq_some_iff.mp H
    obtain ⟨t377, A40, H⟩ := H
    replace H : (some t377) = some true := H
    have A4 := Aside0.mk A40
    clear A40
    have HR_ := Aside0.mk (Option.some.inj H)
    clear H
    go_enter Try.func6, Try.ntmps6
    go_wp2_with (first | ((with_reducible refine gate_dst (N := 2) rfl ?_); refine box_event ?hg (N := 2) ?hd (cs := #[.slice A0_0 l0_0.length c0_0, .int .i64 a0_1, .int .i64 a0_2]) (t := 24) ?hr ?_; (case hd => rfl); (case hg => rfl); (case hr => first | (go_simp; done) | (go_simp; rfl)); intro gb376 hg w5 hbox hb; have n0_ := Aside0.mk (below_step (by repeat (first | (with_reducible first | exact HB.out | apply below_alloc | apply pw_below_drewN | apply below_drew1) | exact HB.out)) hb); have n1_ := Aside0.mk (hbox); have n2_ := Aside0.mk ((by rw [hg]; exact (below_size (by repeat (first | (with_reducible first | exact HB.out | apply below_alloc | apply pw_below_drewN | apply below_drew1) | exact HB.out))) : w.heap.size ≤ gb376)); have n3_ := Aside0.mk ((by rw [hg]; exact (below_size (by repeat (first | (with_reducible first | exact HB.out | apply below_alloc | apply pw_below_drewN | apply below_drew1) | exact HB.out))) : w.heap.size ≤ gb376)); clear HB; have HB := n0_; have BK376 := n1_; have GW376 := n2_; have GE376 := n3_; clear n0_ n1_ n2_ n3_; clear hb hbox hg; have hcz6_0 : w5.cell? ⟨gb376, 0, none⟩ = some (.slice A0_0 l0_0.length c0_0) := (blk_cell BK376.out 0).trans rfl; have hcz6_1 : w5.cell? ⟨gb376, 1, none⟩ = some (.int .i64 a0_1) := (blk_cell BK376.out 1).trans rfl; have hcz6_2 : w5.cell? ⟨gb376, 2, none⟩ = some (.int .i64 a0_2) := (blk_cell BK376.out 2).trans rfl; have hfz6_0 := blk_frozen BK376.out 0; have hfz6_1 := blk_frozen BK376.out 1; have hfz6_2 := blk_frozen BK376.out 2) | ((with_reducible refine gate_callee (f := 12) rfl ?_); refine goesL_ (some 11) rfl rfl Try.func12 (by kernel_rfl) rfl #[] rfl (by (try simp only [List.map_toArray, List.map_cons, List.map_nil]); first | done | rfl | (simp only [List.length_drop, List.length_take]; rfl)) ?_; (with_reducible refine (remontoirlaw03_knows.calls k  t377 _ A4.out).mono ?_); rintro e w7 ⟨rfl, hb⟩; refine ⟨_, rfl, ?_⟩; have n0_ := Aside0.mk (blk_below (g := gb376) (o := .cells #[.slice A0_0 l0_0.length c0_0, .int .i64 a0_1, .int .i64 a0_2] 24 (0, 0)) (by (with_reducible repeat (first | refine blk_drewN ?_ _ | refine blk_drew ?_ | refine blk_alloc ?_ _)); exact BK376.out) hb); have n1_ := Aside0.mk (below_step (by repeat (first | (with_reducible first | exact HB.out | apply below_alloc | apply pw_below_drewN | apply below_drew1 | refine below_set ?_ GE376.out) | exact HB.out)) hb); clear BK376; clear HB; have BK376 := n0_; have HB := n1_; clear n0_ n1_; (try clear hb); (try clear hb2); (try clear hk); (try clear hi)))
    go_ret
    exact ⟨by first | rfl | (rw [HR_.out] <;> rfl) | (simp [errW_none, errW_some] <;> rfl) | (simp [*, errW_none, errW_some] <;> rfl), by repeat (first | (with_reducible first | exact HB.out | apply below_alloc | apply pw_below_drewN | apply below_drew1 | refine below_set ?_ GE376.out) | exact HB.out)⟩
  · rw [if_neg c3] at H
    have c3b0 : decide (100 < (l0_0.length : Int)) = false := decide_eq_false c3
    have c3b1 : decide (100 < l0_0.length) = false := decide_eq_false (by omega)
    clear c3
    replace H := Option.bind_eq_some_iff.mp H
    obtain ⟨⟨t378, t381, t382⟩, A80, H⟩ := H
    replace H : ((remontoirlaw03_As.f l0_0 a0_1 a0_2).bind fun bt384 => ((remontoirref03_Right.f k bt384.1 bt384.2.1 bt384.2.2).bind fun t390 => (if t390 = true then (if a0_2 = (l0_0.length : Int) then ((remontoirref03_Without.f k bt384.1 bt384.2.1 bt384.2.2).bind fun bt398 => (remontoirlaw03_RingPuts.j0 k a1 t378 t381 t382 bt398.1 bt398.2.1 bt398.2.2)) else (remontoirlaw03_RingPuts.j0 k a1 t378 t381 t382 bt384.1 bt384.2.1 bt384.2.2)) else ((remontoirlaw03_As.f t378 t381 t382).bind fun bt391 => ((remontoirref03_Same.f k bt391.1 bt391.2.1 bt391.2.2 bt384.1 bt384.2.1 bt384.2.2).bind fun t396 => (if t396 = true then ((remontoirlaw03_knows.f k).bind fun t397 => (some t397)) else (some false))))))) = some true := H
    have A8 := Aside0.mk A80
    clear A80
    replace H := Option.bind_eq_some_iff.mp H
    obtain ⟨⟨t384, t387, t388⟩, A90, H⟩ := H
    replace H : ((remontoirref03_Right.f k t384 t387 t388).bind fun t390 => (if t390 = true then (if a0_2 = (l0_0.length : Int) then ((remontoirref03_Without.f k t384 t387 t388).bind fun bt398 => (remontoirlaw03_RingPuts.j0 k a1 t378 t381 t382 bt398.1 bt398.2.1 bt398.2.2)) else (remontoirlaw03_RingPuts.j0 k a1 t378 t381 t382 t384 t387 t388)) else ((remontoirlaw03_As.f t378 t381 t382).bind fun bt391 => ((remontoirref03_Same.f k bt391.1 bt391.2.1 bt391.2.2 t384 t387 t388).bind fun t396 => (if t396 = true then ((remontoirlaw03_knows.f k).bind fun t397 => (some t397)) else (some false)))))) = some true := H
    have A9 := Aside0.mk A90
    clear A90
    replace H := Option.bind_eq_some_iff.mp H
    obtain ⟨t390, A100, H⟩ := H
    replace H : (if t390 = true then (if a0_2 = (l0_0.length : Int) then ((remontoirref03_Without.f k t384 t387 t388).bind fun bt398 => (remontoirlaw03_RingPuts.j0 k a1 t378 t381 t382 bt398.1 bt398.2.1 bt398.2.2)) else (remontoirlaw03_RingPuts.j0 k a1 t378 t381 t382 t384 t387 t388)) else ((remontoirlaw03_As.f t378 t381 t382).bind fun bt391 => ((remontoirref03_Same.f k bt391.1 bt391.2.1 bt391.2.2 t384 t387 t388).bind fun t396 => (if t396 = true then ((remontoirlaw03_knows.f k).bind fun t397 => (some t397)) else (some false))))) = some true := H
    have A10 := Aside0.mk A100
    clear A100
    by_cases c11 : t390 = true
    · subst c11
      have H1 : (if a0_2 = (l0_0.length : Int) then ((remontoirref03_Without.f k t384 t387 t388).bind fun bt398 => (remontoirlaw03_RingPuts.j0 k a1 t378 t381 t382 bt398.1 bt398.2.1 bt398.2.2)) else (remontoirlaw03_RingPuts.j0 k a1 t378 t381 t382 t384 t387 t388)) = some true := by rw [if_pos rfl] at H; exact H
      clear H
      have H := H1
      clear H1
      have HC12 := Aside0.mk H
      clear H
      go_enter Try.func6, Try.ntmps6
      go_upto_if 32 with (first | ((with_reducible refine gate_dst (N := 2) rfl ?_); refine box_event ?hg (N := 2) ?hd (cs := #[.slice A0_0 l0_0.length c0_0, .int .i64 a0_1, .int .i64 a0_2]) (t := 24) ?hr ?_; (case hd => rfl); (case hg => rfl); (case hr => first | (go_simp; done) | (go_simp; rfl)); intro gb376 hg w13 hbox hb; have n0_ := Aside0.mk (below_step (by repeat (first | (with_reducible first | exact HB.out | apply below_alloc | apply pw_below_drewN | apply below_drew1) | exact HB.out)) hb); have n1_ := Aside0.mk (hbox); have n2_ := Aside0.mk ((by rw [hg]; exact (below_size (by repeat (first | (with_reducible first | exact HB.out | apply below_alloc | apply pw_below_drewN | apply below_drew1) | exact HB.out))) : w.heap.size ≤ gb376)); have n3_ := Aside0.mk ((by rw [hg]; exact (below_size (by repeat (first | (with_reducible first | exact HB.out | apply below_alloc | apply pw_below_drewN | apply below_drew1) | exact HB.out))) : w.heap.size ≤ gb376)); clear HB; have HB := n0_; have BK376 := n1_; have GW376 := n2_; have GE376 := n3_; clear n0_ n1_ n2_ n3_; clear hb hbox hg; have hcz14_0 : w13.cell? ⟨gb376, 0, none⟩ = some (.slice A0_0 l0_0.length c0_0) := (blk_cell BK376.out 0).trans rfl; have hcz14_1 : w13.cell? ⟨gb376, 1, none⟩ = some (.int .i64 a0_1) := (blk_cell BK376.out 1).trans rfl; have hcz14_2 : w13.cell? ⟨gb376, 2, none⟩ = some (.int .i64 a0_2) := (blk_cell BK376.out 2).trans rfl; have hfz14_0 := blk_frozen BK376.out 0; have hfz14_1 := blk_frozen BK376.out 1; have hfz14_2 := blk_frozen BK376.out 2) | ((with_reducible refine gate_callee (f := 25) rfl ?_); refine goesL_ (some 14) rfl rfl Try.func25 (by kernel_rfl) rfl #[.agg #[.slice A0_0 l0_0.length c0_0, .int .i64 a0_1, .int .i64 a0_2], .int .i64 a1] rfl (by (try simp only [List.map_toArray, List.map_cons, List.map_nil]); first | done | rfl | (simp only [List.length_drop, List.length_take]; rfl)) ?_; (with_reducible refine (ring_Put.calls k (fun k_ => k_ < w.heap.size) _ _ l0_0 a0_1 a0_2 a1 t378 t381 t382 _ ?side1 A8.out).mono ?_); (case side1 => exact Kd.V_mk HC0_0.out (Kd.F_below (Kd.C_F (Kd.heap_int .i64) HR0_0.out) (by repeat (first | (with_reducible first | exact HB.out | apply below_alloc | apply pw_below_drewN | apply below_drew1 | refine below_set ?_ GE376.out) | exact HB.out)))); rintro e w15 ⟨v379, rfl, ho0, hb⟩; refine ⟨_, rfl, ?_⟩; have n0_ := Aside0.mk (Kd.V_lower (Kd.V_mono (ok' := fun k_ => k_ ≠ gb376) ho0 (fun k_ hk_ => Or.elim hk_ (fun hs_ => fun e_ => Nat.not_le.2 hs_ (by rw [e_]; exact GW376.out)) (fun hn_ => (Kd.freshB (g := gb376) (o := .cells #[.slice A0_0 l0_0.length c0_0, .int .i64 a0_1, .int .i64 a0_2] 24 (0, 0)) (by (with_reducible repeat (first | refine blk_drewN ?_ _ | refine blk_drew ?_ | refine blk_alloc ?_ _)); exact BK376.out) k_ hn_)))) (below_size (by repeat (first | (with_reducible first | exact HB.out | apply below_alloc | apply pw_below_drewN | apply below_drew1 | refine below_set ?_ GE376.out) | exact HB.out)))); have n1_ := Aside0.mk (blk_below (g := gb376) (o := .cells #[.slice A0_0 l0_0.length c0_0, .int .i64 a0_1, .int .i64 a0_2] 24 (0, 0)) (by (with_reducible repeat (first | refine blk_drewN ?_ _ | refine blk_drew ?_ | refine blk_alloc ?_ _)); exact BK376.out) hb); have n2_ := Aside0.mk (below_step (by repeat (first | (with_reducible first | exact HB.out | apply below_alloc | apply pw_below_drewN | apply below_drew1 | refine below_set ?_ GE376.out) | exact HB.out)) hb); clear BK376; clear HB; have HO380 := n0_; have BK376 := n1_; have HB := n2_; clear n0_ n1_ n2_; (try clear hb); (try clear hb2); (try clear hk); (try clear hi); (try clear ho0)) | ((with_reducible refine gate_dst (N := 5) rfl ?_); refine box_event ?hg (N := 5) ?hd (cs := #[.slice none 0 0, .int .i64 0, .int .i64 0]) (t := 24) ?hr ?_; (case hd => rfl); (case hg => rfl); (case hr => first | (go_simp; done) | (go_simp; rfl)); intro gb383 hg w16 hbox hb; have n0_ := Aside0.mk (Kd.V_below (Kd.V_elderB (by (with_reducible repeat (first | apply Kd.V_alloc | apply Kd.V_drewN | apply Kd.V_drew)); exact HO380.out) gb383 (Nat.le_of_eq hg.symm)) hb); have n1_ := Aside0.mk (blk_below (g := gb376) (o := .cells #[.slice A0_0 l0_0.length c0_0, .int .i64 a0_1, .int .i64 a0_2] 24 (0, 0)) (by (with_reducible repeat (first | refine blk_drewN ?_ _ | refine blk_drew ?_ | refine blk_alloc ?_ _)); exact BK376.out) hb); have n2_ := Aside0.mk (below_step (by repeat (first | (with_reducible first | exact HB.out | apply below_alloc | apply pw_below_drewN | apply below_drew1 | refine below_set ?_ GE376.out) | exact HB.out)) hb); have n3_ := Aside0.mk (hbox); have n4_ := Aside0.mk ((by rw [hg]; exact (below_size (by repeat (first | (with_reducible first | exact HB.out | apply below_alloc | apply pw_below_drewN | apply below_drew1 | refine below_set ?_ GE376.out) | exact HB.out))) : w.heap.size ≤ gb383)); have n5_ := Aside0.mk ((by rw [hg]; exact (below_size (by repeat (first | (with_reducible first | exact HB.out | apply below_alloc | apply pw_below_drewN | apply below_drew1 | refine below_set ?_ GE376.out) | exact HB.out))) : w.heap.size ≤ gb383)); have n6_ := Aside0.mk ((by rw [hg]; exact Nat.ne_of_lt (blk_lt (g := gb376) (o := .cells #[.slice A0_0 l0_0.length c0_0, .int .i64 a0_1, .int .i64 a0_2] 24 (0, 0)) (by (with_reducible repeat (first | refine blk_drewN ?_ _ | refine blk_drew ?_ | refine blk_alloc ?_ _)); exact BK376.out)) : gb376 ≠ gb383)); have n7_ := Aside0.mk ((by rw [hg]; exact Nat.ne_of_gt (blk_lt (g := gb376) (o := .cells #[.slice A0_0 l0_0.length c0_0, .int .i64 a0_1, .int .i64 a0_2] 24 (0, 0)) (by (with_reducible repeat (first | refine blk_drewN ?_ _ | refine blk_drew ?_ | refine blk_alloc ?_ _)); exact BK376.out)) : gb383 ≠ gb376)); clear HO380; clear BK376; clear HB; have HO380 := n0_; have BK376 := n1_; have HB := n2_; have BK383 := n3_; have GW383 := n4_; have GE383 := n5_; have NB376_383 := n6_; have NB383_376 := n7_; clear n0_ n1_ n2_ n3_ n4_ n5_ n6_ n7_; clear hb hbox hg; obtain ⟨Ao17, co17, eo17⟩ := Kd.V_slice HO380.out; subst eo17; have hnb18 := NB383_376.out; have hnc18 := NB376_383.out; have hcz19_0 : w16.cell? ⟨gb383, 0, none⟩ = some (.slice none 0 0) := (blk_cell BK383.out 0).trans rfl; have hcz19_1 : w16.cell? ⟨gb383, 1, none⟩ = some (.int .i64 0) := (blk_cell BK383.out 1).trans rfl; have hcz19_2 : w16.cell? ⟨gb383, 2, none⟩ = some (.int .i64 0) := (blk_cell BK383.out 2).trans rfl; have hfz19_0 := blk_frozen BK383.out 0; have hfz19_1 := blk_frozen BK383.out 1; have hfz19_2 := blk_frozen BK383.out 2) | ((with_reducible refine gate_store (t := 24) (p := 5) rfl ?_); refine store_event (t := 24) (p := 5) (v := ?vo_w20) (w1 := (((w16.setCell ⟨gb383, 0, none⟩ (.slice Ao17 t378.length co17)).setCell ⟨gb383, 1, none⟩ (.int .i64 t381)).setCell ⟨gb383, 2, none⟩ (.int .i64 t382))) ?hg ?ho ?hn ?hr ?_; (case ho => rfl); (case hg => rfl); (case hn => rfl); (case hr => first | (go_simp; done) | (go_simp; rfl)); intro w20 hw; have n0_ : Aside0 (Kd.V (Kd.int .i64) 3 w20 w.heap.size (fun k_ => k_ ≠ gb376 ∧ k_ ≠ gb383) (.slice Ao17 t378.length co17) t378) := ⟨(by rw [hw]; exact (by (with_reducible repeat (first | apply Kd.V_alloc | apply Kd.V_drewN | apply Kd.V_drew)); exact Kd.V_mono (Kd.V_far (p := ⟨gb383, 2, none⟩) (Kd.V_far (p := ⟨gb383, 1, none⟩) (Kd.V_far (p := ⟨gb383, 0, none⟩) (Kd.V_mono HO380.out (fun k_ hk => (⟨hk, hk.2⟩ : _ ∧ k_ ≠ gb383))) (fun _ hk => hk.2) (.slice Ao17 t378.length co17)) (fun _ hk => hk.2) (.int .i64 t381)) (fun _ hk => hk.2) (.int .i64 t382)) (fun _ hk => ⟨hk.1.1, hk.1.2⟩)))⟩; have n1_ : Aside0 (w20.heap[gb376]? = some (.cells #[.slice A0_0 l0_0.length c0_0, .int .i64 a0_1, .int .i64 a0_2] 24 (0, 0))) := ⟨(by rw [hw]; exact (by (with_reducible repeat (first | refine blk_drewN ?_ _ | refine blk_drew ?_ | refine blk_alloc ?_ _)); refine blk_far ?_ NB376_383.out _; (with_reducible repeat (first | refine blk_drewN ?_ _ | refine blk_drew ?_ | refine blk_alloc ?_ _)); refine blk_far ?_ NB376_383.out _; (with_reducible repeat (first | refine blk_drewN ?_ _ | refine blk_drew ?_ | refine blk_alloc ?_ _)); refine blk_far ?_ NB376_383.out _; (with_reducible repeat (first | refine blk_drewN ?_ _ | refine blk_drew ?_ | refine blk_alloc ?_ _)); exact BK376.out))⟩; have n2_ : Aside0 (w20.heap[gb383]? = some (.cells #[.slice Ao17 t378.length co17, .int .i64 t381, .int .i64 t382] 24 (0, 0))) := ⟨(by rw [hw]; exact (by (with_reducible repeat (first | refine blk_drewN ?_ _ | refine blk_drew ?_ | refine blk_alloc ?_ _)); refine blk_put (cs := #[.slice Ao17 t378.length co17, .int .i64 t381, .int .i64 0]) ?_ 2 _ rfl; (with_reducible repeat (first | refine blk_drewN ?_ _ | refine blk_drew ?_ | refine blk_alloc ?_ _)); refine blk_put (cs := #[.slice Ao17 t378.length co17, .int .i64 0, .int .i64 0]) ?_ 1 _ rfl; (with_reducible repeat (first | refine blk_drewN ?_ _ | refine blk_drew ?_ | refine blk_alloc ?_ _)); refine blk_put (cs := #[.slice none 0 0, .int .i64 0, .int .i64 0]) ?_ 0 _ rfl; (with_reducible repeat (first | refine blk_drewN ?_ _ | refine blk_drew ?_ | refine blk_alloc ?_ _)); exact BK383.out))⟩; have n3_ : Aside0 (Below w.heap.size w w20) := ⟨(by rw [hw]; exact (by repeat (first | (with_reducible first | exact HB.out | apply below_alloc | apply pw_below_drewN | apply below_drew1 | refine below_set ?_ GE376.out | refine below_set ?_ GE383.out) | exact HB.out)))⟩; clear hw; clear HO380; clear BK376; clear BK383; clear HB; have HO380 := n0_; have BK376 := n1_; have BK383 := n2_; have HB := n3_; clear n0_ n1_ n2_ n3_; have hcz21_0 : w20.cell? ⟨gb376, 0, none⟩ = some (.slice A0_0 l0_0.length c0_0) := (blk_cell BK376.out 0).trans rfl; have hcz21_1 : w20.cell? ⟨gb376, 1, none⟩ = some (.int .i64 a0_1) := (blk_cell BK376.out 1).trans rfl; have hcz21_2 : w20.cell? ⟨gb376, 2, none⟩ = some (.int .i64 a0_2) := (blk_cell BK376.out 2).trans rfl; have hfz21_0 := blk_frozen BK376.out 0; have hfz21_1 := blk_frozen BK376.out 1; have hfz21_2 := blk_frozen BK376.out 2) | ((with_reducible refine gate_callee (f := 15) rfl ?_); refine goesL_ (some 16) rfl rfl Try.func15 (by kernel_rfl) rfl #[.agg #[.slice A0_0 l0_0.length c0_0, .int .i64 a0_1, .int .i64 a0_2]] rfl (by (try simp only [List.map_toArray, List.map_cons, List.map_nil]); first | done | rfl | (simp only [List.length_drop, List.length_take]; rfl)) ?_; (with_reducible refine (remontoirlaw03_As.calls (fun k_ => k_ < w.heap.size) _ _ l0_0 a0_1 a0_2 t384 t387 t388 _ ?side1 A9.out).mono ?_); (case side1 => exact Kd.V_mk HC0_0.out (Kd.F_below (Kd.C_F (Kd.heap_int .i64) HR0_0.out) (by repeat (first | (with_reducible first | exact HB.out | apply below_alloc | apply pw_below_drewN | apply below_drew1 | refine below_set ?_ GE376.out | refine below_set ?_ GE383.out) | exact HB.out)))); rintro e w22 ⟨v385, rfl, ho0, hb⟩; refine ⟨_, rfl, ?_⟩; have n0_ := Aside0.mk (Kd.V_below (by (with_reducible repeat (first | apply Kd.V_alloc | apply Kd.V_drewN | apply Kd.V_drew)); exact HO380.out) hb); have n1_ := Aside0.mk (Kd.V_lower (Kd.V_mono (ok' := fun k_ => k_ ≠ gb376 ∧ k_ ≠ gb383) ho0 (fun k_ hk_ => ⟨Or.elim hk_ (fun hs_ => fun e_ => Nat.not_le.2 hs_ (by rw [e_]; exact GW376.out)) (fun hn_ => (Kd.freshB (g := gb376) (o := .cells #[.slice A0_0 l0_0.length c0_0, .int .i64 a0_1, .int .i64 a0_2] 24 (0, 0)) (by (with_reducible repeat (first | refine blk_drewN ?_ _ | refine blk_drew ?_ | refine blk_alloc ?_ _)); exact BK376.out) k_ hn_)), Or.elim hk_ (fun hs_ => fun e_ => Nat.not_le.2 hs_ (by rw [e_]; exact GW383.out)) (fun hn_ => (Kd.freshB (g := gb383) (o := .cells #[.slice Ao17 t378.length co17, .int .i64 t381, .int .i64 t382] 24 (0, 0)) (by (with_reducible repeat (first | refine blk_drewN ?_ _ | refine blk_drew ?_ | refine blk_alloc ?_ _)); exact BK383.out) k_ hn_))⟩)) (below_size (by repeat (first | (with_reducible first | exact HB.out | apply below_alloc | apply pw_below_drewN | apply below_drew1 | refine below_set ?_ GE376.out | refine below_set ?_ GE383.out) | exact HB.out)))); have n2_ := Aside0.mk (blk_below (g := gb376) (o := .cells #[.slice A0_0 l0_0.length c0_0, .int .i64 a0_1, .int .i64 a0_2] 24 (0, 0)) (by (with_reducible repeat (first | refine blk_drewN ?_ _ | refine blk_drew ?_ | refine blk_alloc ?_ _)); exact BK376.out) hb); have n3_ := Aside0.mk (blk_below (g := gb383) (o := .cells #[.slice Ao17 t378.length co17, .int .i64 t381, .int .i64 t382] 24 (0, 0)) (by (with_reducible repeat (first | refine blk_drewN ?_ _ | refine blk_drew ?_ | refine blk_alloc ?_ _)); exact BK383.out) hb); have n4_ := Aside0.mk (below_step (by repeat (first | (with_reducible first | exact HB.out | apply below_alloc | apply pw_below_drewN | apply below_drew1 | refine below_set ?_ GE376.out | refine below_set ?_ GE383.out) | exact HB.out)) hb); clear HO380; clear BK376; clear BK383; clear HB; have HO380 := n0_; have HO386 := n1_; have BK376 := n2_; have BK383 := n3_; have HB := n4_; clear n0_ n1_ n2_ n3_ n4_; (try clear hb); (try clear hb2); (try clear hk); (try clear hi); (try clear ho0)) | ((with_reducible refine gate_dst (N := 6) rfl ?_); refine box_event ?hg (N := 6) ?hd (cs := #[.slice none 0 0, .int .i64 0, .int .i64 0]) (t := 30) ?hr ?_; (case hd => rfl); (case hg => rfl); (case hr => first | (go_simp; done) | (go_simp; rfl)); intro gb389 hg w23 hbox hb; have n0_ := Aside0.mk (Kd.V_below (Kd.V_elderB (by (with_reducible repeat (first | apply Kd.V_alloc | apply Kd.V_drewN | apply Kd.V_drew)); exact HO380.out) gb389 (Nat.le_of_eq hg.symm)) hb); have n1_ := Aside0.mk (Kd.V_below (Kd.V_elderB (by (with_reducible repeat (first | apply Kd.V_alloc | apply Kd.V_drewN | apply Kd.V_drew)); exact HO386.out) gb389 (Nat.le_of_eq hg.symm)) hb); have n2_ := Aside0.mk (blk_below (g := gb376) (o := .cells #[.slice A0_0 l0_0.length c0_0, .int .i64 a0_1, .int .i64 a0_2] 24 (0, 0)) (by (with_reducible repeat (first | refine blk_drewN ?_ _ | refine blk_drew ?_ | refine blk_alloc ?_ _)); exact BK376.out) hb); have n3_ := Aside0.mk (blk_below (g := gb383) (o := .cells #[.slice Ao17 t378.length co17, .int .i64 t381, .int .i64 t382] 24 (0, 0)) (by (with_reducible repeat (first | refine blk_drewN ?_ _ | refine blk_drew ?_ | refine blk_alloc ?_ _)); exact BK383.out) hb); have n4_ := Aside0.mk (below_step (by repeat (first | (with_reducible first | exact HB.out | apply below_alloc | apply pw_below_drewN | apply below_drew1 | refine below_set ?_ GE376.out | refine below_set ?_ GE383.out) | exact HB.out)) hb); have n5_ := Aside0.mk (hbox); have n6_ := Aside0.mk ((by rw [hg]; exact (below_size (by repeat (first | (with_reducible first | exact HB.out | apply below_alloc | apply pw_below_drewN | apply below_drew1 | refine below_set ?_ GE376.out | refine below_set ?_ GE383.out) | exact HB.out))) : w.heap.size ≤ gb389)); have n7_ := Aside0.mk ((by rw [hg]; exact (below_size (by repeat (first | (with_reducible first | exact HB.out | apply below_alloc | apply pw_below_drewN | apply below_drew1 | refine below_set ?_ GE376.out | refine below_set ?_ GE383.out) | exact HB.out))) : w.heap.size ≤ gb389)); have n8_ := Aside0.mk ((by rw [hg]; exact Nat.ne_of_lt (blk_lt (g := gb376) (o := .cells #[.slice A0_0 l0_0.length c0_0, .int .i64 a0_1, .int .i64 a0_2] 24 (0, 0)) (by (with_reducible repeat (first | refine blk_drewN ?_ _ | refine blk_drew ?_ | refine blk_alloc ?_ _)); exact BK376.out)) : gb376 ≠ gb389)); have n9_ := Aside0.mk ((by rw [hg]; exact Nat.ne_of_gt (blk_lt (g := gb376) (o := .cells #[.slice A0_0 l0_0.length c0_0, .int .i64 a0_1, .int .i64 a0_2] 24 (0, 0)) (by (with_reducible repeat (first | refine blk_drewN ?_ _ | refine blk_drew ?_ | refine blk_alloc ?_ _)); exact BK376.out)) : gb389 ≠ gb376)); have n10_ := Aside0.mk ((by rw [hg]; exact Nat.ne_of_lt (blk_lt (g := gb383) (o := .cells #[.slice Ao17 t378.length co17, .int .i64 t381, .int .i64 t382] 24 (0, 0)) (by (with_reducible repeat (first | refine blk_drewN ?_ _ | refine blk_drew ?_ | refine blk_alloc ?_ _)); exact BK383.out)) : gb383 ≠ gb389)); have n11_ := Aside0.mk ((by rw [hg]; exact Nat.ne_of_gt (blk_lt (g := gb383) (o := .cells #[.slice Ao17 t378.length co17, .int .i64 t381, .int .i64 t382] 24 (0, 0)) (by (with_reducible repeat (first | refine blk_drewN ?_ _ | refine blk_drew ?_ | refine blk_alloc ?_ _)); exact BK383.out)) : gb389 ≠ gb383)); clear HO380; clear HO386; clear BK376; clear BK383; clear HB; have HO380 := n0_; have HO386 := n1_; have BK376 := n2_; have BK383 := n3_; have HB := n4_; have BK389 := n5_; have GW389 := n6_; have GE389 := n7_; have NB376_389 := n8_; have NB389_376 := n9_; have NB383_389 := n10_; have NB389_383 := n11_; clear n0_ n1_ n2_ n3_ n4_ n5_ n6_ n7_ n8_ n9_ n10_ n11_; clear hb hbox hg; obtain ⟨Ao24, co24, eo24⟩ := Kd.V_slice HO386.out; subst eo24; have hnb25 := NB389_376.out; have hnc25 := NB376_389.out; have hnb26 := NB389_383.out; have hnc26 := NB383_389.out; have hcz27_0 : w23.cell? ⟨gb389, 0, none⟩ = some (.slice none 0 0) := (blk_cell BK389.out 0).trans rfl; have hcz27_1 : w23.cell? ⟨gb389, 1, none⟩ = some (.int .i64 0) := (blk_cell BK389.out 1).trans rfl; have hcz27_2 : w23.cell? ⟨gb389, 2, none⟩ = some (.int .i64 0) := (blk_cell BK389.out 2).trans rfl; have hfz27_0 := blk_frozen BK389.out 0; have hfz27_1 := blk_frozen BK389.out 1; have hfz27_2 := blk_frozen BK389.out 2) | ((with_reducible refine gate_callee (f := 14) rfl ?_); refine goesL_ (some 18) rfl rfl Try.func14 (by kernel_rfl) rfl #[.agg #[.slice Ao24 t384.length co24, .int .i64 t387, .int .i64 t388]] rfl (by (try simp only [List.map_toArray, List.map_cons, List.map_nil]); first | done | rfl | (simp only [List.length_drop, List.length_take]; rfl)) ?_; (with_reducible refine (remontoirref03_Right.calls k _ _ t384 t387 t388 true _ ?side1 ?side2 A10.out).mono ?_); (case side1 => refine (Kd.V_reads' (e := 3) (base := w.heap.size) (ok := fun k_ => ((k_ ≠ gb376 ∧ k_ ≠ gb383) ∧ k_ ≠ gb389)) (n := t384.length) (c := co24) ?_).2.2; exact (by (with_reducible repeat (first | apply Kd.V_alloc | apply Kd.V_drewN | apply Kd.V_drew)); exact (Kd.V_mono (Kd.V_far (p := ⟨gb389, 2, none⟩) (Kd.V_far (p := ⟨gb389, 1, none⟩) (Kd.V_far (p := ⟨gb389, 0, none⟩) (Kd.V_mono HO386.out (fun k_ hk => (⟨hk, hk.2⟩ : _ ∧ k_ ≠ gb389))) (fun _ hk => hk.2) (.slice Ao24 t384.length co24)) (fun _ hk => hk.2) (.int .i64 t387)) (fun _ hk => hk.2) (.int .i64 t388)) (fun _ h_ => h_.1)))); (case side2 => exact (Kd.V_reads' HO386.out).2.1); rintro e w28 ⟨rfl, hb⟩; refine ⟨_, rfl, ?_⟩; have n0_ := Aside0.mk (Kd.V_below (by (with_reducible repeat (first | apply Kd.V_alloc | apply Kd.V_drewN | apply Kd.V_drew)); exact (Kd.V_mono (Kd.V_far (p := ⟨gb389, 2, none⟩) (Kd.V_far (p := ⟨gb389, 1, none⟩) (Kd.V_far (p := ⟨gb389, 0, none⟩) (Kd.V_mono HO380.out (fun k_ hk => (⟨hk, hk.2⟩ : _ ∧ k_ ≠ gb389))) (fun _ hk => hk.2) (.slice Ao24 t384.length co24)) (fun _ hk => hk.2) (.int .i64 t387)) (fun _ hk => hk.2) (.int .i64 t388)) (fun _ h_ => h_.1))) hb); have n1_ := Aside0.mk (Kd.V_below (by (with_reducible repeat (first | apply Kd.V_alloc | apply Kd.V_drewN | apply Kd.V_drew)); exact (Kd.V_mono (Kd.V_far (p := ⟨gb389, 2, none⟩) (Kd.V_far (p := ⟨gb389, 1, none⟩) (Kd.V_far (p := ⟨gb389, 0, none⟩) (Kd.V_mono HO386.out (fun k_ hk => (⟨hk, hk.2⟩ : _ ∧ k_ ≠ gb389))) (fun _ hk => hk.2) (.slice Ao24 t384.length co24)) (fun _ hk => hk.2) (.int .i64 t387)) (fun _ hk => hk.2) (.int .i64 t388)) (fun _ h_ => h_.1))) hb); have n2_ := Aside0.mk (blk_below (g := gb376) (o := .cells #[.slice A0_0 l0_0.length c0_0, .int .i64 a0_1, .int .i64 a0_2] 24 (0, 0)) (by (with_reducible repeat (first | refine blk_drewN ?_ _ | refine blk_drew ?_ | refine blk_alloc ?_ _)); refine blk_far ?_ NB376_389.out _; (with_reducible repeat (first | refine blk_drewN ?_ _ | refine blk_drew ?_ | refine blk_alloc ?_ _)); refine blk_far ?_ NB376_389.out _; (with_reducible repeat (first | refine blk_drewN ?_ _ | refine blk_drew ?_ | refine blk_alloc ?_ _)); refine blk_far ?_ NB376_389.out _; (with_reducible repeat (first | refine blk_drewN ?_ _ | refine blk_drew ?_ | refine blk_alloc ?_ _)); exact BK376.out) hb); have n3_ := Aside0.mk (blk_below (g := gb383) (o := .cells #[.slice Ao17 t378.length co17, .int .i64 t381, .int .i64 t382] 24 (0, 0)) (by (with_reducible repeat (first | refine blk_drewN ?_ _ | refine blk_drew ?_ | refine blk_alloc ?_ _)); refine blk_far ?_ NB383_389.out _; (with_reducible repeat (first | refine blk_drewN ?_ _ | refine blk_drew ?_ | refine blk_alloc ?_ _)); refine blk_far ?_ NB383_389.out _; (with_reducible repeat (first | refine blk_drewN ?_ _ | refine blk_drew ?_ | refine blk_alloc ?_ _)); refine blk_far ?_ NB383_389.out _; (with_reducible repeat (first | refine blk_drewN ?_ _ | refine blk_drew ?_ | refine blk_alloc ?_ _)); exact BK383.out) hb); have n4_ := Aside0.mk (blk_below (g := gb389) (o := .cells #[.slice Ao24 t384.length co24, .int .i64 t387, .int .i64 t388] 30 (0, 0)) (by (with_reducible repeat (first | refine blk_drewN ?_ _ | refine blk_drew ?_ | refine blk_alloc ?_ _)); refine blk_put (cs := #[.slice Ao24 t384.length co24, .int .i64 t387, .int .i64 0]) ?_ 2 _ rfl; (with_reducible repeat (first | refine blk_drewN ?_ _ | refine blk_drew ?_ | refine blk_alloc ?_ _)); refine blk_put (cs := #[.slice Ao24 t384.length co24, .int .i64 0, .int .i64 0]) ?_ 1 _ rfl; (with_reducible repeat (first | refine blk_drewN ?_ _ | refine blk_drew ?_ | refine blk_alloc ?_ _)); refine blk_put (cs := #[.slice none 0 0, .int .i64 0, .int .i64 0]) ?_ 0 _ rfl; (with_reducible repeat (first | refine blk_drewN ?_ _ | refine blk_drew ?_ | refine blk_alloc ?_ _)); exact BK389.out) hb); have n5_ := Aside0.mk (below_step (by repeat (first | (with_reducible first | exact HB.out | apply below_alloc | apply pw_below_drewN | apply below_drew1 | refine below_set ?_ GE376.out | refine below_set ?_ GE383.out | refine below_set ?_ GE389.out) | exact HB.out)) hb); clear HO380; clear HO386; clear BK376; clear BK383; clear BK389; clear HB; have HO380 := n0_; have HO386 := n1_; have BK376 := n2_; have BK383 := n3_; have BK389 := n4_; have HB := n5_; clear n0_ n1_ n2_ n3_ n4_ n5_; (try clear hb); (try clear hb2); (try clear hk); (try clear hi); have hcz29_0 : w28.cell? ⟨gb376, 0, none⟩ = some (.slice A0_0 l0_0.length c0_0) := (blk_cell BK376.out 0).trans rfl; have hcz29_1 : w28.cell? ⟨gb376, 1, none⟩ = some (.int .i64 a0_1) := (blk_cell BK376.out 1).trans rfl; have hcz29_2 : w28.cell? ⟨gb376, 2, none⟩ = some (.int .i64 a0_2) := (blk_cell BK376.out 2).trans rfl; have hfz29_0 := blk_frozen BK376.out 0; have hfz29_1 := blk_frozen BK376.out 1; have hfz29_2 := blk_frozen BK376.out 2))
      (try simp only [Act.put, List.setIfInBounds_toArray, List.set_cons_zero, List.set_cons_succ])
      go_cut [] (fun wc => ∃ (kq : Nat) (x390000_11 : List Int) (x390001_11 : Int) (x390002_11 : Int) (u390000 : Value), Aside0 (remontoirlaw03_RingPuts.j0 kq a1 t378 t381 t382 x390000_11 x390001_11 x390002_11 = some true) ∧ Aside0 (kq ≤ k) ∧ Aside0 (Kd.V (Kd.int .i64) 3 wc w.heap.size (fun k_ => k_ ≠ gb376 ∧ k_ ≠ gb383 ∧ k_ ≠ gb389) (.slice Ao17 t378.length co17) t378) ∧ Aside0 (Kd.V (Kd.int .i64) 3 wc w.heap.size (fun k_ => k_ ≠ gb376 ∧ k_ ≠ gb383 ∧ k_ ≠ gb389) u390000 x390000_11) ∧ Aside0 (wc.heap[gb376]? = some (.cells #[(.slice A0_0 l0_0.length c0_0), .int .i64 a0_1, .int .i64 a0_2] 24 (0, 0))) ∧ Aside0 (wc.heap[gb383]? = some (.cells #[(.slice Ao17 t378.length co17), .int .i64 t381, .int .i64 t382] 24 (0, 0))) ∧ Aside0 (wc.heap[gb389]? = some (.cells #[u390000, .int .i64 x390001_11, .int .i64 x390002_11] 30 (0, 0))) ∧ Aside0 (Below w.heap.size w wc))
      case first =>
        have H := HC12.out
        clear HC12
        by_cases c30 : a0_2 = (l0_0.length : Int)
        · rw [if_pos c30] at H
          have c30b0 : (a0_2 == (l0_0.length : Int)) = true := beq_iff_eq.mpr c30
          have c30b1 : (a0_2 != (l0_0.length : Int)) = false := bne_eq_false_iff_eq.mpr c30
          clear c30
          (first | rw [c30b0] | (simp only [i64_w, i32_w]; rw [c30b0]) | rw [c30b1] | (simp only [i64_w, i32_w]; rw [c30b1]) | skip)
          replace H := Option.bind_eq_some_iff.mp H
          obtain ⟨⟨t398, t401, t402⟩, A310, H⟩ := H
          replace H : (remontoirlaw03_RingPuts.j0 k a1 t378 t381 t382 t398 t401 t402) = some true := H
          have A31 := Aside0.mk A310
          clear A310
          have H' := Aside0.mk H
          clear H
          have hnb32 := NB389_376.out
          have hnc32 := NB376_389.out
          have hnb33 := NB389_383.out
          have hnc33 := NB383_389.out
          have hcz34_0 : w28.cell? ⟨gb389, 0, none⟩ = some (.slice Ao24 t384.length co24) := (blk_cell BK389.out 0).trans rfl
          have hcz34_1 : w28.cell? ⟨gb389, 1, none⟩ = some (.int .i64 t387) := (blk_cell BK389.out 1).trans rfl
          have hcz34_2 : w28.cell? ⟨gb389, 2, none⟩ = some (.int .i64 t388) := (blk_cell BK389.out 2).trans rfl
          have hfz34_0 := blk_frozen BK389.out 0
          have hfz34_1 := blk_frozen BK389.out 1
          have hfz34_2 := blk_frozen BK389.out 2
          go_wp2_with (first | ((with_reducible refine gate_callee (f := 24) rfl ?_); refine goesL_ (some 34) rfl rfl Try.func24 (by kernel_rfl) rfl #[.agg #[.slice Ao24 t384.length co24, .int .i64 t387, .int .i64 t388]] rfl (by (try simp only [List.map_toArray, List.map_cons, List.map_nil]); first | done | rfl | (simp only [List.length_drop, List.length_take]; rfl)) ?_; (with_reducible refine (remontoirref03_Without.calls k (fun k_ => ((k_ ≠ gb376 ∧ k_ ≠ gb383) ∧ k_ ≠ gb389)) _ _ t384 t387 t388 t398 t401 t402 _ ?side1 A31.out).mono ?_); (case side1 => exact HO386.out); rintro e w35 ⟨v399, rfl, ho0, hb⟩; refine ⟨_, rfl, ?_⟩; have n0_ := Aside0.mk (Kd.V_below (by (with_reducible repeat (first | apply Kd.V_alloc | apply Kd.V_drewN | apply Kd.V_drew)); exact HO380.out) hb); have n1_ := Aside0.mk (Kd.V_below (by (with_reducible repeat (first | apply Kd.V_alloc | apply Kd.V_drewN | apply Kd.V_drew)); exact HO386.out) hb); have n2_ := Aside0.mk (Kd.V_lower (Kd.V_mono (ok' := fun k_ => k_ ≠ gb376 ∧ k_ ≠ gb383 ∧ k_ ≠ gb389) ho0 (fun k_ hk_ => ⟨Or.elim hk_ (fun hs_ => hs_.1.1) (fun hn_ => (Kd.freshB (g := gb376) (o := .cells #[.slice A0_0 l0_0.length c0_0, .int .i64 a0_1, .int .i64 a0_2] 24 (0, 0)) (by (with_reducible repeat (first | refine blk_drewN ?_ _ | refine blk_drew ?_ | refine blk_alloc ?_ _)); exact BK376.out) k_ hn_)), Or.elim hk_ (fun hs_ => hs_.1.2) (fun hn_ => (Kd.freshB (g := gb383) (o := .cells #[.slice Ao17 t378.length co17, .int .i64 t381, .int .i64 t382] 24 (0, 0)) (by (with_reducible repeat (first | refine blk_drewN ?_ _ | refine blk_drew ?_ | refine blk_alloc ?_ _)); exact BK383.out) k_ hn_)), Or.elim hk_ (fun hs_ => hs_.2) (fun hn_ => (Kd.freshB (g := gb389) (o := .cells #[.slice Ao24 t384.length co24, .int .i64 t387, .int .i64 t388] 30 (0, 0)) (by (with_reducible repeat (first | refine blk_drewN ?_ _ | refine blk_drew ?_ | refine blk_alloc ?_ _)); exact BK389.out) k_ hn_))⟩)) (below_size (by repeat (first | (with_reducible first | exact HB.out | apply below_alloc | apply pw_below_drewN | apply below_drew1 | refine below_set ?_ GE376.out | refine below_set ?_ GE383.out | refine below_set ?_ GE389.out) | exact HB.out)))); have n3_ := Aside0.mk (blk_below (g := gb376) (o := .cells #[.slice A0_0 l0_0.length c0_0, .int .i64 a0_1, .int .i64 a0_2] 24 (0, 0)) (by (with_reducible repeat (first | refine blk_drewN ?_ _ | refine blk_drew ?_ | refine blk_alloc ?_ _)); exact BK376.out) hb); have n4_ := Aside0.mk (blk_below (g := gb383) (o := .cells #[.slice Ao17 t378.length co17, .int .i64 t381, .int .i64 t382] 24 (0, 0)) (by (with_reducible repeat (first | refine blk_drewN ?_ _ | refine blk_drew ?_ | refine blk_alloc ?_ _)); exact BK383.out) hb); have n5_ := Aside0.mk (blk_below (g := gb389) (o := .cells #[.slice Ao24 t384.length co24, .int .i64 t387, .int .i64 t388] 30 (0, 0)) (by (with_reducible repeat (first | refine blk_drewN ?_ _ | refine blk_drew ?_ | refine blk_alloc ?_ _)); exact BK389.out) hb); have n6_ := Aside0.mk (below_step (by repeat (first | (with_reducible first | exact HB.out | apply below_alloc | apply pw_below_drewN | apply below_drew1 | refine below_set ?_ GE376.out | refine below_set ?_ GE383.out | refine below_set ?_ GE389.out) | exact HB.out)) hb); clear HO380; clear HO386; clear BK376; clear BK383; clear BK389; clear HB; have HO380 := n0_; have HO386 := n1_; have HO400 := n2_; have BK376 := n3_; have BK383 := n4_; have BK389 := n5_; have HB := n6_; clear n0_ n1_ n2_ n3_ n4_ n5_ n6_; (try clear hb); (try clear hb2); (try clear hk); (try clear hi); (try clear ho0); obtain ⟨Ao36, co36, eo36⟩ := Kd.V_slice HO400.out; subst eo36; have hcz37_0 : w35.cell? ⟨gb389, 0, none⟩ = some (.slice Ao24 t384.length co24) := (blk_cell BK389.out 0).trans rfl; have hcz37_1 : w35.cell? ⟨gb389, 1, none⟩ = some (.int .i64 t387) := (blk_cell BK389.out 1).trans rfl; have hcz37_2 : w35.cell? ⟨gb389, 2, none⟩ = some (.int .i64 t388) := (blk_cell BK389.out 2).trans rfl; have hfz37_0 := blk_frozen BK389.out 0; have hfz37_1 := blk_frozen BK389.out 1; have hfz37_2 := blk_frozen BK389.out 2))
          go_meet
          case rel => exact ⟨_, (t398), (t401), (t402), (.slice Ao36 t398.length co36), H', ⟨by first | omega | exact Nat.le_refl _⟩, ⟨by (with_reducible repeat (first | apply Kd.V_alloc | apply Kd.V_drewN | apply Kd.V_drew)); exact Kd.V_mono (Kd.V_far (p := ⟨gb389, 2, none⟩) (Kd.V_far (p := ⟨gb389, 1, none⟩) (Kd.V_far (p := ⟨gb389, 0, none⟩) (Kd.V_mono HO380.out (fun k_ hk => (⟨hk, hk.2⟩ : _ ∧ k_ ≠ gb389))) (fun _ hk => hk.2) (.slice Ao36 t398.length co36)) (fun _ hk => hk.2) (.int .i64 t401)) (fun _ hk => hk.2) (.int .i64 t402)) (fun _ hk => ⟨hk.1.1.1, ⟨hk.1.1.2, hk.1.2⟩⟩)⟩, ⟨by (with_reducible repeat (first | apply Kd.V_alloc | apply Kd.V_drewN | apply Kd.V_drew)); exact Kd.V_mono (Kd.V_far (p := ⟨gb389, 2, none⟩) (Kd.V_far (p := ⟨gb389, 1, none⟩) (Kd.V_far (p := ⟨gb389, 0, none⟩) (Kd.V_mono HO400.out (fun k_ hk => (⟨hk, hk.2.2⟩ : _ ∧ k_ ≠ gb389))) (fun _ hk => hk.2) (.slice Ao36 t398.length co36)) (fun _ hk => hk.2) (.int .i64 t401)) (fun _ hk => hk.2) (.int .i64 t402)) (fun _ hk => ⟨hk.1.1, ⟨hk.1.2.1, hk.1.2.2⟩⟩)⟩, ⟨by (with_reducible repeat (first | refine blk_drewN ?_ _ | refine blk_drew ?_ | refine blk_alloc ?_ _)); refine blk_far ?_ NB376_389.out _; (with_reducible repeat (first | refine blk_drewN ?_ _ | refine blk_drew ?_ | refine blk_alloc ?_ _)); refine blk_far ?_ NB376_389.out _; (with_reducible repeat (first | refine blk_drewN ?_ _ | refine blk_drew ?_ | refine blk_alloc ?_ _)); refine blk_far ?_ NB376_389.out _; (with_reducible repeat (first | refine blk_drewN ?_ _ | refine blk_drew ?_ | refine blk_alloc ?_ _)); exact BK376.out⟩, ⟨by (with_reducible repeat (first | refine blk_drewN ?_ _ | refine blk_drew ?_ | refine blk_alloc ?_ _)); refine blk_far ?_ NB383_389.out _; (with_reducible repeat (first | refine blk_drewN ?_ _ | refine blk_drew ?_ | refine blk_alloc ?_ _)); refine blk_far ?_ NB383_389.out _; (with_reducible repeat (first | refine blk_drewN ?_ _ | refine blk_drew ?_ | refine blk_alloc ?_ _)); refine blk_far ?_ NB383_389.out _; (with_reducible repeat (first | refine blk_drewN ?_ _ | refine blk_drew ?_ | refine blk_alloc ?_ _)); exact BK383.out⟩, ⟨by (with_reducible repeat (first | refine blk_drewN ?_ _ | refine blk_drew ?_ | refine blk_alloc ?_ _)); refine blk_put (cs := #[.slice Ao36 t398.length co36, .int .i64 t401, .int .i64 t388]) ?_ 2 _ rfl; (with_reducible repeat (first | refine blk_drewN ?_ _ | refine blk_drew ?_ | refine blk_alloc ?_ _)); refine blk_put (cs := #[.slice Ao36 t398.length co36, .int .i64 t387, .int .i64 t388]) ?_ 1 _ rfl; (with_reducible repeat (first | refine blk_drewN ?_ _ | refine blk_drew ?_ | refine blk_alloc ?_ _)); refine blk_put (cs := #[.slice Ao24 t384.length co24, .int .i64 t387, .int .i64 t388]) ?_ 0 _ rfl; (with_reducible repeat (first | refine blk_drewN ?_ _ | refine blk_drew ?_ | refine blk_alloc ?_ _)); exact BK389.out⟩, ⟨by repeat (first | (with_reducible first | exact HB.out | apply below_alloc | apply pw_below_drewN | apply below_drew1 | refine below_set ?_ GE376.out | refine below_set ?_ GE383.out | refine below_set ?_ GE389.out) | exact HB.out)⟩⟩
        · rw [if_neg c30] at H
          have c30b0 : (a0_2 == (l0_0.length : Int)) = false := beq_eq_false_iff_ne.mpr c30
          have c30b1 : (a0_2 != (l0_0.length : Int)) = true := bne_iff_ne.mpr c30
          (first | rw [c30b0] | (simp only [i64_w, i32_w]; rw [c30b0]) | rw [c30b1] | (simp only [i64_w, i32_w]; rw [c30b1]) | skip)
          have H' := Aside0.mk H
          clear H
          go_wp2
          go_meet
          case rel => exact ⟨_, (t384), (t387), (t388), (.slice Ao24 t384.length co24), H', ⟨by first | omega | exact Nat.le_refl _⟩, ⟨by (with_reducible repeat (first | apply Kd.V_alloc | apply Kd.V_drewN | apply Kd.V_drew)); exact Kd.V_mono HO380.out (fun _ hk => ⟨hk.1.1, ⟨hk.1.2, hk.2⟩⟩)⟩, ⟨by (with_reducible repeat (first | apply Kd.V_alloc | apply Kd.V_drewN | apply Kd.V_drew)); exact Kd.V_mono HO386.out (fun _ hk => ⟨hk.1.1, ⟨hk.1.2, hk.2⟩⟩)⟩, ⟨by (with_reducible repeat (first | refine blk_drewN ?_ _ | refine blk_drew ?_ | refine blk_alloc ?_ _)); exact BK376.out⟩, ⟨by (with_reducible repeat (first | refine blk_drewN ?_ _ | refine blk_drew ?_ | refine blk_alloc ?_ _)); exact BK383.out⟩, ⟨by (with_reducible repeat (first | refine blk_drewN ?_ _ | refine blk_drew ?_ | refine blk_alloc ?_ _)); exact BK389.out⟩, ⟨by repeat (first | (with_reducible first | exact HB.out | apply below_alloc | apply pw_below_drewN | apply below_drew1 | refine below_set ?_ GE376.out | refine below_set ?_ GE383.out | refine below_set ?_ GE389.out) | exact HB.out)⟩⟩
      case rest =>
        clear HC12
        try clear c1
        try clear c2
        try clear p2
        try clear c3
        try clear c3b0
        try clear c3b1
        try clear c6
        try clear c11
        try clear c12
        try clear c14
        try clear c15
        try clear c18
        try clear c24
        try clear c25
        try clear c26
        try clear c30
        try clear c30b0
        try clear c30b1
        try clear c32
        try clear c33
        try clear hcz14_0
        try clear hcz14_1
        try clear hcz14_2
        try clear hcz19_0
        try clear hcz19_1
        try clear hcz19_2
        try clear hcz21_0
        try clear hcz21_1
        try clear hcz21_2
        try clear hcz27_0
        try clear hcz27_1
        try clear hcz27_2
        try clear hcz29_0
        try clear hcz29_1
        try clear hcz29_2
        try clear hcz34_0
        try clear hcz34_1
        try clear hcz34_2
        try clear hcz37_0
        try clear hcz37_1
        try clear hcz37_2
        try clear hcz6_0
        try clear hcz6_1
        try clear hcz6_2
        try clear hfz14_0
        try clear hfz14_1
        try clear hfz14_2
        try clear hfz19_0
        try clear hfz19_1
        try clear hfz19_2
        try clear hfz21_0
        try clear hfz21_1
        try clear hfz21_2
        try clear hfz27_0
        try clear hfz27_1
        try clear hfz27_2
        try clear hfz29_0
        try clear hfz29_1
        try clear hfz29_2
        try clear hfz34_0
        try clear hfz34_1
        try clear hfz34_2
        try clear hfz37_0
        try clear hfz37_1
        try clear hfz37_2
        try clear hfz6_0
        try clear hfz6_1
        try clear hfz6_2
        obtain ⟨kq, x390000_11, x390001_11, x390002_11, u390000, HA, HJ11, HO_384000, HO_390000, BK376, BK383, BK389, HB⟩ := hcut
        cases kq with
        | zero => exact absurd HA.out (by simp [remontoirlaw03_RingPuts.j0])
        | succ kj11 =>
          have H := HA.out
          clear HA
          simp only [remontoirlaw03_RingPuts.j0] at H
          replace H := Option.bind_eq_some_iff.mp H
          obtain ⟨⟨t403, t406, t407⟩, A380, H⟩ := H
          replace H : ((remontoirref03_With.f kj11 x390000_11 x390001_11 x390002_11 a1).bind fun bt408 => ((remontoirref03_Same.f kj11 t403 t406 t407 bt408.1 bt408.2.1 bt408.2.2).bind fun t413 => (if t413 = true then ((remontoirlaw03_knows.f kj11).bind fun t414 => (some t414)) else (some false)))) = some true := H
          have A38 := Aside0.mk A380
          clear A380
          replace H := Option.bind_eq_some_iff.mp H
          obtain ⟨⟨t408, t411, t412⟩, A390, H⟩ := H
          replace H : ((remontoirref03_Same.f kj11 t403 t406 t407 t408 t411 t412).bind fun t413 => (if t413 = true then ((remontoirlaw03_knows.f kj11).bind fun t414 => (some t414)) else (some false))) = some true := H
          have A39 := Aside0.mk A390
          clear A390
          replace H := Option.bind_eq_some_iff.mp H
          obtain ⟨t413, A400, H⟩ := H
          replace H : (if t413 = true then ((remontoirlaw03_knows.f kj11).bind fun t414 => (some t414)) else (some false)) = some true := H
          have A40 := Aside0.mk A400
          clear A400
          by_cases c41 : t413 = true
          · subst c41
            have H1 : ((remontoirlaw03_knows.f kj11).bind fun t414 => (some t414)) = some true := by rw [if_pos rfl] at H; exact H
            clear H
            have H := H1
            clear H1
            replace H := Option.bind_eq_some_iff.mp H
            obtain ⟨t414, A420, H⟩ := H
            replace H : (some t414) = some true := H
            have A42 := Aside0.mk A420
            clear A420
            have HR_ := Aside0.mk (Option.some.inj H)
            clear H
            try go_wp2
            have n0_ := Aside0.mk (Kd.V_drew HO_384000.out)
            have n1_ := Aside0.mk (Kd.V_drew HO_390000.out)
            have n2_ := Aside0.mk (blk_drew BK376.out)
            have n3_ := Aside0.mk (blk_drew BK383.out)
            have n4_ := Aside0.mk (blk_drew BK389.out)
            have n5_ := Aside0.mk (below_drew1 HB.out)
            clear HO_384000
            clear HO_390000
            clear BK376
            clear BK383
            clear BK389
            clear HB
            have HO_384000 := n0_
            have HO_390000 := n1_
            have BK376 := n2_
            have BK383 := n3_
            have BK389 := n4_
            have HB := n5_
            clear n0_ n1_ n2_ n3_ n4_ n5_
            refine start_ (n := 10) (S := fun w' => w'.cell? ⟨gb383, 0, none⟩ = some (.slice Ao17 t378.length co17) ∧ w'.cell? ⟨gb383, 1, none⟩ = some (.int .i64 t381) ∧ w'.cell? ⟨gb383, 2, none⟩ = some (.int .i64 t382) ∧ w'.cell? ⟨gb389, 0, none⟩ = some (u390000) ∧ w'.cell? ⟨gb389, 1, none⟩ = some (.int .i64 x390001_11) ∧ w'.cell? ⟨gb389, 2, none⟩ = some (.int .i64 x390002_11)) (ds := []) #[false, false, false, false, false, false, false, false, false, false] (by kernel_rfl) rfl rfl ⟨(blk_cell BK383.out 0).trans rfl, (blk_cell BK383.out 1).trans rfl, (blk_cell BK383.out 2).trans rfl, (blk_cell BK389.out 0).trans rfl, (blk_cell BK389.out 1).trans rfl, (blk_cell BK389.out 2).trans rfl⟩ (fun hHeld => ?_); refine with_tabW remontoirlaw03_RingPuts.tab9 remontoirlaw03_RingPuts.bits9 (fun HT_ HW_ => ?_)
            generalize wc.drew = w43 at HO_384000 HO_390000 BK376 BK383 BK389 HB hHeld ⊢
            refine pure_ (i := 3) (N := some 38) (v := ?_) (a' := ?_) #[false, false, false, true, false, false, false, false, false, false] rfl rfl (any_of HT_.out (by kernel_rfl)) (fun _ _ _ h => h) (Or.inl ⟨by rfl, ?_⟩) ?_ ?_
            rotate_left
            · intro w'
              go_simp
              with_reducible rfl
            rotate_left
            · simp only [Act.put, List.setIfInBounds_toArray, List.set_cons_zero, List.set_cons_succ, i64_w, i32_w]
              rfl
            refine take_ (i := 0) (N := some 35) (v := ?_) (a' := ?_) #[true, false, false, true, false, false, false, false, false, false] rfl rfl (take_ofW HT_.out HW_.out (by kernel_rfl)) (fun _ _ _ h => h) (Or.inl ⟨by rfl, ?_⟩) hHeld ?_ ?_
            rotate_left
            · rintro w' ⟨s0, s1, s2, s3, s4, s5⟩
              go_simp
              with_reducible rfl
            rotate_left
            · simp only [Act.put, List.setIfInBounds_toArray, List.set_cons_zero, List.set_cons_succ, i64_w, i32_w]
              rfl
            refine take_ (i := 2) (N := some 37) (v := ?_) (a' := ?_) #[true, false, true, true, false, false, false, false, false, false] rfl rfl (take_ofW HT_.out HW_.out (by kernel_rfl)) (fun _ _ _ h => h) (Or.inl ⟨by rfl, ?_⟩) hHeld ?_ ?_
            rotate_left
            · rintro w' ⟨s0, s1, s2, s3, s4, s5⟩
              go_simp
              with_reducible rfl
            rotate_left
            · simp only [Act.put, List.setIfInBounds_toArray, List.set_cons_zero, List.set_cons_succ, i64_w, i32_w]
              rfl
            refine one_ (i := 1) (N := some 36) #[true, true, true, true, false, false, false, false, false, false] rfl rfl (one_of HT_.out (by kernel_rfl)) (by decide) (fun K hK => ?_)
            refine goes_ Try.func15 (by kernel_rfl) rfl #[.agg #[.slice Ao17 t378.length co17, .int .i64 t381, .int .i64 t382]] (by rfl) rfl rfl (by (try simp only [List.map_toArray, List.map_cons, List.map_nil]); first | done | rfl | (simp only [List.length_drop, List.length_take]; rfl)) ?_
            with_reducible refine (remontoirlaw03_As.calls (fun k_ => (k_ ≠ gb376 ∧ (k_ ≠ gb383 ∧ k_ ≠ gb389))) _ _ t378 t381 t382 t403 t406 t407 _ ?side1 A38.out).mono ?_
            (case side1 => exact HO_384000.out)
            rintro e w44 ⟨v404, rfl, ho0, hb⟩
            refine ⟨_, rfl, ?_⟩
            have n0_ := Aside0.mk (Kd.V_below (by (with_reducible repeat (first | apply Kd.V_alloc | apply Kd.V_drewN | apply Kd.V_drew)); exact HO_384000.out) hb)
            have n1_ := Aside0.mk (Kd.V_below (by (with_reducible repeat (first | apply Kd.V_alloc | apply Kd.V_drewN | apply Kd.V_drew)); exact HO_390000.out) hb)
            have n2_ := Aside0.mk (Kd.V_lower (Kd.V_mono (ok' := fun k_ => k_ ≠ gb376 ∧ k_ ≠ gb383 ∧ k_ ≠ gb389) ho0 (fun k_ hk_ => ⟨Or.elim hk_ (fun hs_ => hs_.1) (fun hn_ => (Kd.freshB (g := gb376) (o := .cells #[.slice A0_0 l0_0.length c0_0, .int .i64 a0_1, .int .i64 a0_2] 24 (0, 0)) (by (with_reducible repeat (first | refine blk_drewN ?_ _ | refine blk_drew ?_ | refine blk_alloc ?_ _)); exact BK376.out) k_ hn_)), Or.elim hk_ (fun hs_ => hs_.2.1) (fun hn_ => (Kd.freshB (g := gb383) (o := .cells #[.slice Ao17 t378.length co17, .int .i64 t381, .int .i64 t382] 24 (0, 0)) (by (with_reducible repeat (first | refine blk_drewN ?_ _ | refine blk_drew ?_ | refine blk_alloc ?_ _)); exact BK383.out) k_ hn_)), Or.elim hk_ (fun hs_ => hs_.2.2) (fun hn_ => (Kd.freshB (g := gb389) (o := .cells #[u390000, .int .i64 x390001_11, .int .i64 x390002_11] 30 (0, 0)) (by (with_reducible repeat (first | refine blk_drewN ?_ _ | refine blk_drew ?_ | refine blk_alloc ?_ _)); exact BK389.out) k_ hn_))⟩)) (below_size (by repeat (first | (with_reducible first | exact HB.out | apply below_alloc | apply pw_below_drewN | apply below_drew1 | refine below_set ?_ GE376.out | refine below_set ?_ GE383.out | refine below_set ?_ GE389.out) | exact HB.out))))
            have n3_ := Aside0.mk (blk_below (g := gb376) (o := .cells #[.slice A0_0 l0_0.length c0_0, .int .i64 a0_1, .int .i64 a0_2] 24 (0, 0)) (by (with_reducible repeat (first | refine blk_drewN ?_ _ | refine blk_drew ?_ | refine blk_alloc ?_ _)); exact BK376.out) hb)
            have n4_ := Aside0.mk (blk_below (g := gb383) (o := .cells #[.slice Ao17 t378.length co17, .int .i64 t381, .int .i64 t382] 24 (0, 0)) (by (with_reducible repeat (first | refine blk_drewN ?_ _ | refine blk_drew ?_ | refine blk_alloc ?_ _)); exact BK383.out) hb)
            have n5_ := Aside0.mk (blk_below (g := gb389) (o := .cells #[u390000, .int .i64 x390001_11, .int .i64 x390002_11] 30 (0, 0)) (by (with_reducible repeat (first | refine blk_drewN ?_ _ | refine blk_drew ?_ | refine blk_alloc ?_ _)); exact BK389.out) hb)
            have n6_ := Aside0.mk (below_step (by repeat (first | (with_reducible first | exact HB.out | apply below_alloc | apply pw_below_drewN | apply below_drew1 | refine below_set ?_ GE376.out | refine below_set ?_ GE383.out | refine below_set ?_ GE389.out) | exact HB.out)) hb)
            clear HO_384000
            clear HO_390000
            clear BK376
            clear BK383
            clear BK389
            clear HB
            have HO_384000 := n0_
            have HO_390000 := n1_
            have HO405 := n2_
            have BK376 := n3_
            have BK383 := n4_
            have BK389 := n5_
            have HB := n6_
            clear n0_ n1_ n2_ n3_ n4_ n5_ n6_
            (try clear hb)
            (try clear hb2)
            (try clear hk)
            (try clear hi)
            (try clear ho0)
            obtain ⟨Ao45, co45, eo45⟩ := Kd.V_slice HO_390000.out
            (first | subst eo45 | (injection eo45 with f1_ f2_ f3_; have f4_ := f1_.symm; have f5_ := f3_.symm; clear f1_ f2_ f3_; subst f4_; subst f5_))
            refine hK.out _ _ ⟨(blk_cell BK383.out 0).trans rfl, (blk_cell BK383.out 1).trans rfl, (blk_cell BK383.out 2).trans rfl, (blk_cell BK389.out 0).trans rfl, (blk_cell BK389.out 1).trans rfl, (blk_cell BK389.out 2).trans rfl⟩ (fun hHeld => ?_)
            clear hK K
            refine norm_ (a' := ?_) ?_ ?_
            rotate_left
            · show Act.put _ (some 36) _ = _
              simp only [Act.put, List.setIfInBounds_toArray, List.set_cons_zero, List.set_cons_succ, i64_w, i32_w]
              rfl
            refine one_ (i := 4) (N := some 39) #[true, true, true, true, true, false, false, false, false, false] rfl rfl (one_of HT_.out (by kernel_rfl)) (by decide) (fun K hK => ?_)
            refine goes_ Try.func22 (by kernel_rfl) rfl #[.agg #[.slice Ao45 x390000_11.length co45, .int .i64 x390001_11, .int .i64 x390002_11], .int .i64 a1] (by rfl) rfl rfl (by (try simp only [List.map_toArray, List.map_cons, List.map_nil]); first | done | rfl | (simp only [List.length_drop, List.length_take]; rfl)) ?_
            with_reducible refine (remontoirref03_With.calls kj11 _ _ x390000_11 x390001_11 x390002_11 a1 t408 t411 t412 _ ?side1 ?side2 A39.out).mono ?_
            (case side1 => repeat (first | exact (Kd.V_reads' HO_390000.out).2.2 | (with_reducible refine Kd.C_alloc ?_ _) | (with_reducible refine Kd.C_drewN ?_ _) | (with_reducible refine Kd.C_drew ?_)))
            (case side2 => exact (Kd.V_reads' HO_390000.out).2.1)
            rintro e w46 ⟨v409, rfl, ho0, hb⟩
            refine ⟨_, rfl, ?_⟩
            have n0_ := Aside0.mk (Kd.V_elder' (by (with_reducible repeat (first | apply Kd.V_alloc | apply Kd.V_drewN | apply Kd.V_drew)); exact HO_384000.out) (Kd.R_base ho0) hb)
            have n1_ := Aside0.mk (Kd.V_elder' (by (with_reducible repeat (first | apply Kd.V_alloc | apply Kd.V_drewN | apply Kd.V_drew)); exact HO_390000.out) (Kd.R_base ho0) hb)
            have n2_ := Aside0.mk (Kd.V_elder' (by (with_reducible repeat (first | apply Kd.V_alloc | apply Kd.V_drewN | apply Kd.V_drew)); exact HO405.out) (Kd.R_base ho0) hb)
            have n3_ := Aside0.mk (Kd.R_lower ho0 (below_size (by repeat (first | (with_reducible first | exact HB.out | apply below_alloc | apply pw_below_drewN | apply below_drew1 | refine below_set ?_ GE376.out | refine below_set ?_ GE383.out | refine below_set ?_ GE389.out) | exact HB.out))))
            have n4_ := Aside0.mk (blk_below (g := gb376) (o := .cells #[.slice A0_0 l0_0.length c0_0, .int .i64 a0_1, .int .i64 a0_2] 24 (0, 0)) (by (with_reducible repeat (first | refine blk_drewN ?_ _ | refine blk_drew ?_ | refine blk_alloc ?_ _)); exact BK376.out) hb)
            have n5_ := Aside0.mk (blk_below (g := gb383) (o := .cells #[.slice Ao17 t378.length co17, .int .i64 t381, .int .i64 t382] 24 (0, 0)) (by (with_reducible repeat (first | refine blk_drewN ?_ _ | refine blk_drew ?_ | refine blk_alloc ?_ _)); exact BK383.out) hb)
            have n6_ := Aside0.mk (blk_below (g := gb389) (o := .cells #[.slice Ao45 x390000_11.length co45, .int .i64 x390001_11, .int .i64 x390002_11] 30 (0, 0)) (by (with_reducible repeat (first | refine blk_drewN ?_ _ | refine blk_drew ?_ | refine blk_alloc ?_ _)); exact BK389.out) hb)
            have n7_ := Aside0.mk (below_step (by repeat (first | (with_reducible first | exact HB.out | apply below_alloc | apply pw_below_drewN | apply below_drew1 | refine below_set ?_ GE376.out | refine below_set ?_ GE383.out | refine below_set ?_ GE389.out) | exact HB.out)) hb)
            clear HO_384000
            clear HO_390000
            clear HO405
            clear BK376
            clear BK383
            clear BK389
            clear HB
            have HO_384000 := n0_
            have HO_390000 := n1_
            have HO405 := n2_
            have HO410 := n3_
            have BK376 := n4_
            have BK383 := n5_
            have BK389 := n6_
            have HB := n7_
            clear n0_ n1_ n2_ n3_ n4_ n5_ n6_ n7_
            (try clear hb)
            (try clear hb2)
            (try clear hk)
            (try clear hi)
            (try clear ho0)
            obtain ⟨Ao47, co47, eo47⟩ := Kd.V_slice HO405.out
            (first | subst eo47 | (injection eo47 with f1_ f2_ f3_; have f4_ := f1_.symm; have f5_ := f3_.symm; clear f1_ f2_ f3_; subst f4_; subst f5_))
            obtain ⟨Ao48, co48, eo48⟩ := Kd.R_slice HO410.out
            (first | subst eo48 | (injection eo48 with f1_ f2_ f3_; have f4_ := f1_.symm; have f5_ := f3_.symm; clear f1_ f2_ f3_; subst f4_; subst f5_))
            refine hK.out _ _ ⟨(blk_cell BK383.out 0).trans rfl, (blk_cell BK383.out 1).trans rfl, (blk_cell BK383.out 2).trans rfl, (blk_cell BK389.out 0).trans rfl, (blk_cell BK389.out 1).trans rfl, (blk_cell BK389.out 2).trans rfl⟩ (fun hHeld => ?_)
            clear hK K
            refine norm_ (a' := ?_) ?_ ?_
            rotate_left
            · show Act.put _ (some 39) _ = _
              simp only [Act.put, List.setIfInBounds_toArray, List.set_cons_zero, List.set_cons_succ, i64_w, i32_w]
              rfl
            refine one_ (i := 5) (N := some 40) #[true, true, true, true, true, true, false, false, false, false] rfl rfl (one_of HT_.out (by kernel_rfl)) (by decide) (fun K hK => ?_)
            refine goes_ Try.func20 (by kernel_rfl) rfl #[.agg #[.slice Ao47 t403.length co47, .int .i64 t406, .int .i64 t407], .agg #[.slice Ao48 t408.length co48, .int .i64 t411, .int .i64 t412]] (by rfl) rfl rfl (by (try simp only [List.map_toArray, List.map_cons, List.map_nil]); first | done | rfl | (simp only [List.length_drop, List.length_take]; rfl)) ?_
            with_reducible refine (remontoirref03_Same.calls kj11 _ _ t403 t406 t407 _ _ t408 t411 t412 true _ ?side1 ?side2 ?side3 ?side4 A40.out).mono ?_
            (case side1 => repeat (first | exact (Kd.V_reads' HO405.out).2.2 | (with_reducible refine Kd.C_alloc ?_ _) | (with_reducible refine Kd.C_drewN ?_ _) | (with_reducible refine Kd.C_drew ?_)))
            (case side2 => exact (Kd.V_reads' HO405.out).2.1)
            (case side3 => repeat (first | exact (Kd.R_reads' HO410.out).2.2 | (with_reducible refine Kd.C_alloc ?_ _) | (with_reducible refine Kd.C_drewN ?_ _) | (with_reducible refine Kd.C_drew ?_)))
            (case side4 => exact (Kd.R_reads' HO410.out).2.1)
            rintro e w49 ⟨rfl, hb⟩
            refine ⟨_, rfl, ?_⟩
            have n0_ := Aside0.mk (Kd.V_below (by (with_reducible repeat (first | apply Kd.V_alloc | apply Kd.V_drewN | apply Kd.V_drew)); exact HO_384000.out) hb)
            have n1_ := Aside0.mk (Kd.V_below (by (with_reducible repeat (first | apply Kd.V_alloc | apply Kd.V_drewN | apply Kd.V_drew)); exact HO_390000.out) hb)
            have n2_ := Aside0.mk (Kd.V_below (by (with_reducible repeat (first | apply Kd.V_alloc | apply Kd.V_drewN | apply Kd.V_drew)); exact HO405.out) hb)
            have n3_ := Aside0.mk (Kd.R_below (by (with_reducible repeat (first | apply Kd.R_alloc | apply Kd.R_drewN | apply Kd.R_drew)); exact HO410.out) hb)
            have n4_ := Aside0.mk (blk_below (g := gb376) (o := .cells #[.slice A0_0 l0_0.length c0_0, .int .i64 a0_1, .int .i64 a0_2] 24 (0, 0)) (by (with_reducible repeat (first | refine blk_drewN ?_ _ | refine blk_drew ?_ | refine blk_alloc ?_ _)); exact BK376.out) hb)
            have n5_ := Aside0.mk (blk_below (g := gb383) (o := .cells #[.slice Ao17 t378.length co17, .int .i64 t381, .int .i64 t382] 24 (0, 0)) (by (with_reducible repeat (first | refine blk_drewN ?_ _ | refine blk_drew ?_ | refine blk_alloc ?_ _)); exact BK383.out) hb)
            have n6_ := Aside0.mk (blk_below (g := gb389) (o := .cells #[.slice Ao45 x390000_11.length co45, .int .i64 x390001_11, .int .i64 x390002_11] 30 (0, 0)) (by (with_reducible repeat (first | refine blk_drewN ?_ _ | refine blk_drew ?_ | refine blk_alloc ?_ _)); exact BK389.out) hb)
            have n7_ := Aside0.mk (below_step (by repeat (first | (with_reducible first | exact HB.out | apply below_alloc | apply pw_below_drewN | apply below_drew1 | refine below_set ?_ GE376.out | refine below_set ?_ GE383.out | refine below_set ?_ GE389.out) | exact HB.out)) hb)
            clear HO_384000
            clear HO_390000
            clear HO405
            clear HO410
            clear BK376
            clear BK383
            clear BK389
            clear HB
            have HO_384000 := n0_
            have HO_390000 := n1_
            have HO405 := n2_
            have HO410 := n3_
            have BK376 := n4_
            have BK383 := n5_
            have BK389 := n6_
            have HB := n7_
            clear n0_ n1_ n2_ n3_ n4_ n5_ n6_ n7_
            (try clear hb)
            (try clear hb2)
            (try clear hk)
            (try clear hi)
            refine hK.out _ _ ⟨(blk_cell BK383.out 0).trans rfl, (blk_cell BK383.out 1).trans rfl, (blk_cell BK383.out 2).trans rfl, (blk_cell BK389.out 0).trans rfl, (blk_cell BK389.out 1).trans rfl, (blk_cell BK389.out 2).trans rfl⟩ (fun hHeld => ?_)
            clear hK K
            refine norm_ (a' := ?_) ?_ ?_
            rotate_left
            · show Act.put _ (some 40) _ = _
              simp only [Act.put, List.setIfInBounds_toArray, List.set_cons_zero, List.set_cons_succ, i64_w, i32_w]
              rfl
            refine pure_ (i := 6) (N := some 41) (v := ?_) (a' := ?_) #[true, true, true, true, true, true, true, false, false, false] rfl rfl (any_of HT_.out (by kernel_rfl)) (fun _ _ _ h => h) (Or.inl ⟨by rfl, ?_⟩) ?_ ?_
            rotate_left
            · intro w'
              go_simp
              with_reducible rfl
            rotate_left
            · simp only [Act.put, List.setIfInBounds_toArray, List.set_cons_zero, List.set_cons_succ, i64_w, i32_w]
              rfl
            refine one_ (i := 7) (N := some 42) #[true, true, true, true, true, true, true, true, false, false] rfl rfl (one_of HT_.out (by kernel_rfl)) (by decide) (fun K hK => ?_)
            refine goes_ Try.func12 (by kernel_rfl) rfl #[] (by rfl) rfl rfl (by (try simp only [List.map_toArray, List.map_cons, List.map_nil]); first | done | rfl | (simp only [List.length_drop, List.length_take]; rfl)) ?_
            with_reducible refine (remontoirlaw03_knows.calls kj11  t414 _ A42.out).mono ?_
            rintro e w50 ⟨rfl, hb⟩
            refine ⟨_, rfl, ?_⟩
            have n0_ := Aside0.mk (Kd.V_below (by (with_reducible repeat (first | apply Kd.V_alloc | apply Kd.V_drewN | apply Kd.V_drew)); exact HO_384000.out) hb)
            have n1_ := Aside0.mk (Kd.V_below (by (with_reducible repeat (first | apply Kd.V_alloc | apply Kd.V_drewN | apply Kd.V_drew)); exact HO_390000.out) hb)
            have n2_ := Aside0.mk (Kd.V_below (by (with_reducible repeat (first | apply Kd.V_alloc | apply Kd.V_drewN | apply Kd.V_drew)); exact HO405.out) hb)
            have n3_ := Aside0.mk (Kd.R_below (by (with_reducible repeat (first | apply Kd.R_alloc | apply Kd.R_drewN | apply Kd.R_drew)); exact HO410.out) hb)
            have n4_ := Aside0.mk (blk_below (g := gb376) (o := .cells #[.slice A0_0 l0_0.length c0_0, .int .i64 a0_1, .int .i64 a0_2] 24 (0, 0)) (by (with_reducible repeat (first | refine blk_drewN ?_ _ | refine blk_drew ?_ | refine blk_alloc ?_ _)); exact BK376.out) hb)
            have n5_ := Aside0.mk (blk_below (g := gb383) (o := .cells #[.slice Ao17 t378.length co17, .int .i64 t381, .int .i64 t382] 24 (0, 0)) (by (with_reducible repeat (first | refine blk_drewN ?_ _ | refine blk_drew ?_ | refine blk_alloc ?_ _)); exact BK383.out) hb)
            have n6_ := Aside0.mk (blk_below (g := gb389) (o := .cells #[.slice Ao45 x390000_11.length co45, .int .i64 x390001_11, .int .i64 x390002_11] 30 (0, 0)) (by (with_reducible repeat (first | refine blk_drewN ?_ _ | refine blk_drew ?_ | refine blk_alloc ?_ _)); exact BK389.out) hb)
            have n7_ := Aside0.mk (below_step (by repeat (first | (with_reducible first | exact HB.out | apply below_alloc | apply pw_below_drewN | apply below_drew1 | refine below_set ?_ GE376.out | refine below_set ?_ GE383.out | refine below_set ?_ GE389.out) | exact HB.out)) hb)
            clear HO_384000
            clear HO_390000
            clear HO405
            clear HO410
            clear BK376
            clear BK383
            clear BK389
            clear HB
            have HO_384000 := n0_
            have HO_390000 := n1_
            have HO405 := n2_
            have HO410 := n3_
            have BK376 := n4_
            have BK383 := n5_
            have BK389 := n6_
            have HB := n7_
            clear n0_ n1_ n2_ n3_ n4_ n5_ n6_ n7_
            (try clear hb)
            (try clear hb2)
            (try clear hk)
            (try clear hi)
            refine hK.out _ _ ⟨(blk_cell BK383.out 0).trans rfl, (blk_cell BK383.out 1).trans rfl, (blk_cell BK383.out 2).trans rfl, (blk_cell BK389.out 0).trans rfl, (blk_cell BK389.out 1).trans rfl, (blk_cell BK389.out 2).trans rfl⟩ (fun hHeld => ?_)
            clear hK K
            refine norm_ (a' := ?_) ?_ ?_
            rotate_left
            · show Act.put _ (some 42) _ = _
              simp only [Act.put, List.setIfInBounds_toArray, List.set_cons_zero, List.set_cons_succ, i64_w, i32_w]
              rfl
            refine pure_ (i := 8) (N := some 43) (v := ?_) (a' := ?_) #[true, true, true, true, true, true, true, true, true, false] rfl rfl (any_of HT_.out (by kernel_rfl)) (fun _ _ _ h => h) (Or.inl ⟨by rfl, ?_⟩) ?_ ?_
            rotate_left
            · intro w'
              go_simp
              with_reducible rfl
            rotate_left
            · simp only [Act.put, List.setIfInBounds_toArray, List.set_cons_zero, List.set_cons_succ, i64_w, i32_w]
              rfl
            refine pure_ (i := 9) (N := some 4) (v := ?_) (a' := ?_) #[true, true, true, true, true, true, true, true, true, true] rfl rfl (any_of HT_.out (by kernel_rfl)) (fun _ _ _ h => h) (Or.inl ⟨by rfl, ?_⟩) ?_ ?_
            rotate_left
            · intro w'
              go_simp
              with_reducible rfl
            rotate_left
            · simp only [Act.put, List.setIfInBounds_toArray, List.set_cons_zero, List.set_cons_succ, i64_w, i32_w]
              rfl
            refine done_ (done_of HT_.out (by kernel_rfl)) ?_
            try go_wp2
            go_ret
            exact ⟨by first | rfl | (rw [HR_.out] <;> rfl) | (simp [errW_none, errW_some] <;> rfl) | (simp [*, errW_none, errW_some] <;> rfl), by repeat (first | (with_reducible first | exact HB.out | apply below_alloc | apply pw_below_drewN | apply below_drew1 | refine below_set ?_ GE376.out | refine below_set ?_ GE383.out | refine below_set ?_ GE389.out) | exact HB.out)⟩
          · replace c41 := Bool.eq_false_iff.mpr c41
            subst c41
            have H1 : (some false) = some true := by rw [if_neg (show ¬ (false = true) by decide)] at H; exact H
            clear H
            have H := H1
            clear H1
            exact absurd H (by simp)
    · replace c11 := Bool.eq_false_iff.mpr c11
      subst c11
      have H1 : ((remontoirlaw03_As.f t378 t381 t382).bind fun bt391 => ((remontoirref03_Same.f k bt391.1 bt391.2.1 bt391.2.2 t384 t387 t388).bind fun t396 => (if t396 = true then ((remontoirlaw03_knows.f k).bind fun t397 => (some t397)) else (some false)))) = some true := by rw [if_neg (show ¬ (false = true) by decide)] at H; exact H
      clear H
      have H := H1
      clear H1
      replace H := Option.bind_eq_some_iff.mp H
      obtain ⟨⟨t391, t394, t395⟩, A510, H⟩ := H
      replace H : ((remontoirref03_Same.f k t391 t394 t395 t384 t387 t388).bind fun t396 => (if t396 = true then ((remontoirlaw03_knows.f k).bind fun t397 => (some t397)) else (some false))) = some true := H
      have A51 := Aside0.mk A510
      clear A510
      replace H := Option.bind_eq_some_iff.mp H
      obtain ⟨t396, A520, H⟩ := H
      replace H : (if t396 = true then ((remontoirlaw03_knows.f k).bind fun t397 => (some t397)) else (some false)) = some true := H
      have A52 := Aside0.mk A520
      clear A520
      by_cases c53 : t396 = true
      · subst c53
        have H1 : ((remontoirlaw03_knows.f k).bind fun t397 => (some t397)) = some true := by rw [if_pos rfl] at H; exact H
        clear H
        have H := H1
        clear H1
        replace H := Option.bind_eq_some_iff.mp H
        obtain ⟨t397, A540, H⟩ := H
        replace H : (some t397) = some true := H
        have A54 := Aside0.mk A540
        clear A540
        have HR_ := Aside0.mk (Option.some.inj H)
        clear H
        go_enter Try.func6, Try.ntmps6
        try go_wp2_with (first | ((with_reducible refine gate_dst (N := 2) rfl ?_); refine box_event ?hg (N := 2) ?hd (cs := #[.slice A0_0 l0_0.length c0_0, .int .i64 a0_1, .int .i64 a0_2]) (t := 24) ?hr ?_; (case hd => rfl); (case hg => rfl); (case hr => first | (go_simp; done) | (go_simp; rfl)); intro gb376 hg w55 hbox hb; have n0_ := Aside0.mk (below_step (by repeat (first | (with_reducible first | exact HB.out | apply below_alloc | apply pw_below_drewN | apply below_drew1) | exact HB.out)) hb); have n1_ := Aside0.mk (hbox); have n2_ := Aside0.mk ((by rw [hg]; exact (below_size (by repeat (first | (with_reducible first | exact HB.out | apply below_alloc | apply pw_below_drewN | apply below_drew1) | exact HB.out))) : w.heap.size ≤ gb376)); have n3_ := Aside0.mk ((by rw [hg]; exact (below_size (by repeat (first | (with_reducible first | exact HB.out | apply below_alloc | apply pw_below_drewN | apply below_drew1) | exact HB.out))) : w.heap.size ≤ gb376)); clear HB; have HB := n0_; have BK376 := n1_; have GW376 := n2_; have GE376 := n3_; clear n0_ n1_ n2_ n3_; clear hb hbox hg; have hcz56_0 : w55.cell? ⟨gb376, 0, none⟩ = some (.slice A0_0 l0_0.length c0_0) := (blk_cell BK376.out 0).trans rfl; have hcz56_1 : w55.cell? ⟨gb376, 1, none⟩ = some (.int .i64 a0_1) := (blk_cell BK376.out 1).trans rfl; have hcz56_2 : w55.cell? ⟨gb376, 2, none⟩ = some (.int .i64 a0_2) := (blk_cell BK376.out 2).trans rfl; have hfz56_0 := blk_frozen BK376.out 0; have hfz56_1 := blk_frozen BK376.out 1; have hfz56_2 := blk_frozen BK376.out 2) | ((with_reducible refine gate_callee (f := 25) rfl ?_); refine goesL_ (some 14) rfl rfl Try.func25 (by kernel_rfl) rfl #[.agg #[.slice A0_0 l0_0.length c0_0, .int .i64 a0_1, .int .i64 a0_2], .int .i64 a1] rfl (by (try simp only [List.map_toArray, List.map_cons, List.map_nil]); first | done | rfl | (simp only [List.length_drop, List.length_take]; rfl)) ?_; (with_reducible refine (ring_Put.calls k (fun k_ => k_ < w.heap.size) _ _ l0_0 a0_1 a0_2 a1 t378 t381 t382 _ ?side1 A8.out).mono ?_); (case side1 => exact Kd.V_mk HC0_0.out (Kd.F_below (Kd.C_F (Kd.heap_int .i64) HR0_0.out) (by repeat (first | (with_reducible first | exact HB.out | apply below_alloc | apply pw_below_drewN | apply below_drew1 | refine below_set ?_ GE376.out) | exact HB.out)))); rintro e w57 ⟨v379, rfl, ho0, hb⟩; refine ⟨_, rfl, ?_⟩; have n0_ := Aside0.mk (Kd.V_lower (Kd.V_mono (ok' := fun k_ => k_ ≠ gb376) ho0 (fun k_ hk_ => Or.elim hk_ (fun hs_ => fun e_ => Nat.not_le.2 hs_ (by rw [e_]; exact GW376.out)) (fun hn_ => (Kd.freshB (g := gb376) (o := .cells #[.slice A0_0 l0_0.length c0_0, .int .i64 a0_1, .int .i64 a0_2] 24 (0, 0)) (by (with_reducible repeat (first | refine blk_drewN ?_ _ | refine blk_drew ?_ | refine blk_alloc ?_ _)); exact BK376.out) k_ hn_)))) (below_size (by repeat (first | (with_reducible first | exact HB.out | apply below_alloc | apply pw_below_drewN | apply below_drew1 | refine below_set ?_ GE376.out) | exact HB.out)))); have n1_ := Aside0.mk (blk_below (g := gb376) (o := .cells #[.slice A0_0 l0_0.length c0_0, .int .i64 a0_1, .int .i64 a0_2] 24 (0, 0)) (by (with_reducible repeat (first | refine blk_drewN ?_ _ | refine blk_drew ?_ | refine blk_alloc ?_ _)); exact BK376.out) hb); have n2_ := Aside0.mk (below_step (by repeat (first | (with_reducible first | exact HB.out | apply below_alloc | apply pw_below_drewN | apply below_drew1 | refine below_set ?_ GE376.out) | exact HB.out)) hb); clear BK376; clear HB; have HO380 := n0_; have BK376 := n1_; have HB := n2_; clear n0_ n1_ n2_; (try clear hb); (try clear hb2); (try clear hk); (try clear hi); (try clear ho0)) | ((with_reducible refine gate_dst (N := 5) rfl ?_); refine box_event ?hg (N := 5) ?hd (cs := #[.slice none 0 0, .int .i64 0, .int .i64 0]) (t := 24) ?hr ?_; (case hd => rfl); (case hg => rfl); (case hr => first | (go_simp; done) | (go_simp; rfl)); intro gb383 hg w58 hbox hb; have n0_ := Aside0.mk (Kd.V_below (Kd.V_elderB (by (with_reducible repeat (first | apply Kd.V_alloc | apply Kd.V_drewN | apply Kd.V_drew)); exact HO380.out) gb383 (Nat.le_of_eq hg.symm)) hb); have n1_ := Aside0.mk (blk_below (g := gb376) (o := .cells #[.slice A0_0 l0_0.length c0_0, .int .i64 a0_1, .int .i64 a0_2] 24 (0, 0)) (by (with_reducible repeat (first | refine blk_drewN ?_ _ | refine blk_drew ?_ | refine blk_alloc ?_ _)); exact BK376.out) hb); have n2_ := Aside0.mk (below_step (by repeat (first | (with_reducible first | exact HB.out | apply below_alloc | apply pw_below_drewN | apply below_drew1 | refine below_set ?_ GE376.out) | exact HB.out)) hb); have n3_ := Aside0.mk (hbox); have n4_ := Aside0.mk ((by rw [hg]; exact (below_size (by repeat (first | (with_reducible first | exact HB.out | apply below_alloc | apply pw_below_drewN | apply below_drew1 | refine below_set ?_ GE376.out) | exact HB.out))) : w.heap.size ≤ gb383)); have n5_ := Aside0.mk ((by rw [hg]; exact (below_size (by repeat (first | (with_reducible first | exact HB.out | apply below_alloc | apply pw_below_drewN | apply below_drew1 | refine below_set ?_ GE376.out) | exact HB.out))) : w.heap.size ≤ gb383)); have n6_ := Aside0.mk ((by rw [hg]; exact Nat.ne_of_lt (blk_lt (g := gb376) (o := .cells #[.slice A0_0 l0_0.length c0_0, .int .i64 a0_1, .int .i64 a0_2] 24 (0, 0)) (by (with_reducible repeat (first | refine blk_drewN ?_ _ | refine blk_drew ?_ | refine blk_alloc ?_ _)); exact BK376.out)) : gb376 ≠ gb383)); have n7_ := Aside0.mk ((by rw [hg]; exact Nat.ne_of_gt (blk_lt (g := gb376) (o := .cells #[.slice A0_0 l0_0.length c0_0, .int .i64 a0_1, .int .i64 a0_2] 24 (0, 0)) (by (with_reducible repeat (first | refine blk_drewN ?_ _ | refine blk_drew ?_ | refine blk_alloc ?_ _)); exact BK376.out)) : gb383 ≠ gb376)); clear HO380; clear BK376; clear HB; have HO380 := n0_; have BK376 := n1_; have HB := n2_; have BK383 := n3_; have GW383 := n4_; have GE383 := n5_; have NB376_383 := n6_; have NB383_376 := n7_; clear n0_ n1_ n2_ n3_ n4_ n5_ n6_ n7_; clear hb hbox hg; obtain ⟨Ao59, co59, eo59⟩ := Kd.V_slice HO380.out; subst eo59; have hnb60 := NB383_376.out; have hnc60 := NB376_383.out; have hcz61_0 : w58.cell? ⟨gb383, 0, none⟩ = some (.slice none 0 0) := (blk_cell BK383.out 0).trans rfl; have hcz61_1 : w58.cell? ⟨gb383, 1, none⟩ = some (.int .i64 0) := (blk_cell BK383.out 1).trans rfl; have hcz61_2 : w58.cell? ⟨gb383, 2, none⟩ = some (.int .i64 0) := (blk_cell BK383.out 2).trans rfl; have hfz61_0 := blk_frozen BK383.out 0; have hfz61_1 := blk_frozen BK383.out 1; have hfz61_2 := blk_frozen BK383.out 2) | ((with_reducible refine gate_store (t := 24) (p := 5) rfl ?_); refine store_event (t := 24) (p := 5) (v := ?vo_w62) (w1 := (((w58.setCell ⟨gb383, 0, none⟩ (.slice Ao59 t378.length co59)).setCell ⟨gb383, 1, none⟩ (.int .i64 t381)).setCell ⟨gb383, 2, none⟩ (.int .i64 t382))) ?hg ?ho ?hn ?hr ?_; (case ho => rfl); (case hg => rfl); (case hn => rfl); (case hr => first | (go_simp; done) | (go_simp; rfl)); intro w62 hw; have n0_ : Aside0 (Kd.V (Kd.int .i64) 3 w62 w.heap.size (fun k_ => k_ ≠ gb376 ∧ k_ ≠ gb383) (.slice Ao59 t378.length co59) t378) := ⟨(by rw [hw]; exact (by (with_reducible repeat (first | apply Kd.V_alloc | apply Kd.V_drewN | apply Kd.V_drew)); exact Kd.V_mono (Kd.V_far (p := ⟨gb383, 2, none⟩) (Kd.V_far (p := ⟨gb383, 1, none⟩) (Kd.V_far (p := ⟨gb383, 0, none⟩) (Kd.V_mono HO380.out (fun k_ hk => (⟨hk, hk.2⟩ : _ ∧ k_ ≠ gb383))) (fun _ hk => hk.2) (.slice Ao59 t378.length co59)) (fun _ hk => hk.2) (.int .i64 t381)) (fun _ hk => hk.2) (.int .i64 t382)) (fun _ hk => ⟨hk.1.1, hk.1.2⟩)))⟩; have n1_ : Aside0 (w62.heap[gb376]? = some (.cells #[.slice A0_0 l0_0.length c0_0, .int .i64 a0_1, .int .i64 a0_2] 24 (0, 0))) := ⟨(by rw [hw]; exact (by (with_reducible repeat (first | refine blk_drewN ?_ _ | refine blk_drew ?_ | refine blk_alloc ?_ _)); refine blk_far ?_ NB376_383.out _; (with_reducible repeat (first | refine blk_drewN ?_ _ | refine blk_drew ?_ | refine blk_alloc ?_ _)); refine blk_far ?_ NB376_383.out _; (with_reducible repeat (first | refine blk_drewN ?_ _ | refine blk_drew ?_ | refine blk_alloc ?_ _)); refine blk_far ?_ NB376_383.out _; (with_reducible repeat (first | refine blk_drewN ?_ _ | refine blk_drew ?_ | refine blk_alloc ?_ _)); exact BK376.out))⟩; have n2_ : Aside0 (w62.heap[gb383]? = some (.cells #[.slice Ao59 t378.length co59, .int .i64 t381, .int .i64 t382] 24 (0, 0))) := ⟨(by rw [hw]; exact (by (with_reducible repeat (first | refine blk_drewN ?_ _ | refine blk_drew ?_ | refine blk_alloc ?_ _)); refine blk_put (cs := #[.slice Ao59 t378.length co59, .int .i64 t381, .int .i64 0]) ?_ 2 _ rfl; (with_reducible repeat (first | refine blk_drewN ?_ _ | refine blk_drew ?_ | refine blk_alloc ?_ _)); refine blk_put (cs := #[.slice Ao59 t378.length co59, .int .i64 0, .int .i64 0]) ?_ 1 _ rfl; (with_reducible repeat (first | refine blk_drewN ?_ _ | refine blk_drew ?_ | refine blk_alloc ?_ _)); refine blk_put (cs := #[.slice none 0 0, .int .i64 0, .int .i64 0]) ?_ 0 _ rfl; (with_reducible repeat (first | refine blk_drewN ?_ _ | refine blk_drew ?_ | refine blk_alloc ?_ _)); exact BK383.out))⟩; have n3_ : Aside0 (Below w.heap.size w w62) := ⟨(by rw [hw]; exact (by repeat (first | (with_reducible first | exact HB.out | apply below_alloc | apply pw_below_drewN | apply below_drew1 | refine below_set ?_ GE376.out | refine below_set ?_ GE383.out) | exact HB.out)))⟩; clear hw; clear HO380; clear BK376; clear BK383; clear HB; have HO380 := n0_; have BK376 := n1_; have BK383 := n2_; have HB := n3_; clear n0_ n1_ n2_ n3_; have hcz63_0 : w62.cell? ⟨gb376, 0, none⟩ = some (.slice A0_0 l0_0.length c0_0) := (blk_cell BK376.out 0).trans rfl; have hcz63_1 : w62.cell? ⟨gb376, 1, none⟩ = some (.int .i64 a0_1) := (blk_cell BK376.out 1).trans rfl; have hcz63_2 : w62.cell? ⟨gb376, 2, none⟩ = some (.int .i64 a0_2) := (blk_cell BK376.out 2).trans rfl; have hfz63_0 := blk_frozen BK376.out 0; have hfz63_1 := blk_frozen BK376.out 1; have hfz63_2 := blk_frozen BK376.out 2) | ((with_reducible refine gate_callee (f := 15) rfl ?_); refine goesL_ (some 16) rfl rfl Try.func15 (by kernel_rfl) rfl #[.agg #[.slice A0_0 l0_0.length c0_0, .int .i64 a0_1, .int .i64 a0_2]] rfl (by (try simp only [List.map_toArray, List.map_cons, List.map_nil]); first | done | rfl | (simp only [List.length_drop, List.length_take]; rfl)) ?_; (with_reducible refine (remontoirlaw03_As.calls (fun k_ => k_ < w.heap.size) _ _ l0_0 a0_1 a0_2 t384 t387 t388 _ ?side1 A9.out).mono ?_); (case side1 => exact Kd.V_mk HC0_0.out (Kd.F_below (Kd.C_F (Kd.heap_int .i64) HR0_0.out) (by repeat (first | (with_reducible first | exact HB.out | apply below_alloc | apply pw_below_drewN | apply below_drew1 | refine below_set ?_ GE376.out | refine below_set ?_ GE383.out) | exact HB.out)))); rintro e w64 ⟨v385, rfl, ho0, hb⟩; refine ⟨_, rfl, ?_⟩; have n0_ := Aside0.mk (Kd.V_below (by (with_reducible repeat (first | apply Kd.V_alloc | apply Kd.V_drewN | apply Kd.V_drew)); exact HO380.out) hb); have n1_ := Aside0.mk (Kd.V_lower (Kd.V_mono (ok' := fun k_ => k_ ≠ gb376 ∧ k_ ≠ gb383) ho0 (fun k_ hk_ => ⟨Or.elim hk_ (fun hs_ => fun e_ => Nat.not_le.2 hs_ (by rw [e_]; exact GW376.out)) (fun hn_ => (Kd.freshB (g := gb376) (o := .cells #[.slice A0_0 l0_0.length c0_0, .int .i64 a0_1, .int .i64 a0_2] 24 (0, 0)) (by (with_reducible repeat (first | refine blk_drewN ?_ _ | refine blk_drew ?_ | refine blk_alloc ?_ _)); exact BK376.out) k_ hn_)), Or.elim hk_ (fun hs_ => fun e_ => Nat.not_le.2 hs_ (by rw [e_]; exact GW383.out)) (fun hn_ => (Kd.freshB (g := gb383) (o := .cells #[.slice Ao59 t378.length co59, .int .i64 t381, .int .i64 t382] 24 (0, 0)) (by (with_reducible repeat (first | refine blk_drewN ?_ _ | refine blk_drew ?_ | refine blk_alloc ?_ _)); exact BK383.out) k_ hn_))⟩)) (below_size (by repeat (first | (with_reducible first | exact HB.out | apply below_alloc | apply pw_below_drewN | apply below_drew1 | refine below_set ?_ GE376.out | refine below_set ?_ GE383.out) | exact HB.out)))); have n2_ := Aside0.mk (blk_below (g := gb376) (o := .cells #[.slice A0_0 l0_0.length c0_0, .int .i64 a0_1, .int .i64 a0_2] 24 (0, 0)) (by (with_reducible repeat (first | refine blk_drewN ?_ _ | refine blk_drew ?_ | refine blk_alloc ?_ _)); exact BK376.out) hb); have n3_ := Aside0.mk (blk_below (g := gb383) (o := .cells #[.slice Ao59 t378.length co59, .int .i64 t381, .int .i64 t382] 24 (0, 0)) (by (with_reducible repeat (first | refine blk_drewN ?_ _ | refine blk_drew ?_ | refine blk_alloc ?_ _)); exact BK383.out) hb); have n4_ := Aside0.mk (below_step (by repeat (first | (with_reducible first | exact HB.out | apply below_alloc | apply pw_below_drewN | apply below_drew1 | refine below_set ?_ GE376.out | refine below_set ?_ GE383.out) | exact HB.out)) hb); clear HO380; clear BK376; clear BK383; clear HB; have HO380 := n0_; have HO386 := n1_; have BK376 := n2_; have BK383 := n3_; have HB := n4_; clear n0_ n1_ n2_ n3_ n4_; (try clear hb); (try clear hb2); (try clear hk); (try clear hi); (try clear ho0)) | ((with_reducible refine gate_dst (N := 6) rfl ?_); refine box_event ?hg (N := 6) ?hd (cs := #[.slice none 0 0, .int .i64 0, .int .i64 0]) (t := 30) ?hr ?_; (case hd => rfl); (case hg => rfl); (case hr => first | (go_simp; done) | (go_simp; rfl)); intro gb389 hg w65 hbox hb; have n0_ := Aside0.mk (Kd.V_below (Kd.V_elderB (by (with_reducible repeat (first | apply Kd.V_alloc | apply Kd.V_drewN | apply Kd.V_drew)); exact HO380.out) gb389 (Nat.le_of_eq hg.symm)) hb); have n1_ := Aside0.mk (Kd.V_below (Kd.V_elderB (by (with_reducible repeat (first | apply Kd.V_alloc | apply Kd.V_drewN | apply Kd.V_drew)); exact HO386.out) gb389 (Nat.le_of_eq hg.symm)) hb); have n2_ := Aside0.mk (blk_below (g := gb376) (o := .cells #[.slice A0_0 l0_0.length c0_0, .int .i64 a0_1, .int .i64 a0_2] 24 (0, 0)) (by (with_reducible repeat (first | refine blk_drewN ?_ _ | refine blk_drew ?_ | refine blk_alloc ?_ _)); exact BK376.out) hb); have n3_ := Aside0.mk (blk_below (g := gb383) (o := .cells #[.slice Ao59 t378.length co59, .int .i64 t381, .int .i64 t382] 24 (0, 0)) (by (with_reducible repeat (first | refine blk_drewN ?_ _ | refine blk_drew ?_ | refine blk_alloc ?_ _)); exact BK383.out) hb); have n4_ := Aside0.mk (below_step (by repeat (first | (with_reducible first | exact HB.out | apply below_alloc | apply pw_below_drewN | apply below_drew1 | refine below_set ?_ GE376.out | refine below_set ?_ GE383.out) | exact HB.out)) hb); have n5_ := Aside0.mk (hbox); have n6_ := Aside0.mk ((by rw [hg]; exact (below_size (by repeat (first | (with_reducible first | exact HB.out | apply below_alloc | apply pw_below_drewN | apply below_drew1 | refine below_set ?_ GE376.out | refine below_set ?_ GE383.out) | exact HB.out))) : w.heap.size ≤ gb389)); have n7_ := Aside0.mk ((by rw [hg]; exact (below_size (by repeat (first | (with_reducible first | exact HB.out | apply below_alloc | apply pw_below_drewN | apply below_drew1 | refine below_set ?_ GE376.out | refine below_set ?_ GE383.out) | exact HB.out))) : w.heap.size ≤ gb389)); have n8_ := Aside0.mk ((by rw [hg]; exact Nat.ne_of_lt (blk_lt (g := gb376) (o := .cells #[.slice A0_0 l0_0.length c0_0, .int .i64 a0_1, .int .i64 a0_2] 24 (0, 0)) (by (with_reducible repeat (first | refine blk_drewN ?_ _ | refine blk_drew ?_ | refine blk_alloc ?_ _)); exact BK376.out)) : gb376 ≠ gb389)); have n9_ := Aside0.mk ((by rw [hg]; exact Nat.ne_of_gt (blk_lt (g := gb376) (o := .cells #[.slice A0_0 l0_0.length c0_0, .int .i64 a0_1, .int .i64 a0_2] 24 (0, 0)) (by (with_reducible repeat (first | refine blk_drewN ?_ _ | refine blk_drew ?_ | refine blk_alloc ?_ _)); exact BK376.out)) : gb389 ≠ gb376)); have n10_ := Aside0.mk ((by rw [hg]; exact Nat.ne_of_lt (blk_lt (g := gb383) (o := .cells #[.slice Ao59 t378.length co59, .int .i64 t381, .int .i64 t382] 24 (0, 0)) (by (with_reducible repeat (first | refine blk_drewN ?_ _ | refine blk_drew ?_ | refine blk_alloc ?_ _)); exact BK383.out)) : gb383 ≠ gb389)); have n11_ := Aside0.mk ((by rw [hg]; exact Nat.ne_of_gt (blk_lt (g := gb383) (o := .cells #[.slice Ao59 t378.length co59, .int .i64 t381, .int .i64 t382] 24 (0, 0)) (by (with_reducible repeat (first | refine blk_drewN ?_ _ | refine blk_drew ?_ | refine blk_alloc ?_ _)); exact BK383.out)) : gb389 ≠ gb383)); clear HO380; clear HO386; clear BK376; clear BK383; clear HB; have HO380 := n0_; have HO386 := n1_; have BK376 := n2_; have BK383 := n3_; have HB := n4_; have BK389 := n5_; have GW389 := n6_; have GE389 := n7_; have NB376_389 := n8_; have NB389_376 := n9_; have NB383_389 := n10_; have NB389_383 := n11_; clear n0_ n1_ n2_ n3_ n4_ n5_ n6_ n7_ n8_ n9_ n10_ n11_; clear hb hbox hg; obtain ⟨Ao66, co66, eo66⟩ := Kd.V_slice HO386.out; subst eo66; have hnb67 := NB389_376.out; have hnc67 := NB376_389.out; have hnb68 := NB389_383.out; have hnc68 := NB383_389.out; have hcz69_0 : w65.cell? ⟨gb389, 0, none⟩ = some (.slice none 0 0) := (blk_cell BK389.out 0).trans rfl; have hcz69_1 : w65.cell? ⟨gb389, 1, none⟩ = some (.int .i64 0) := (blk_cell BK389.out 1).trans rfl; have hcz69_2 : w65.cell? ⟨gb389, 2, none⟩ = some (.int .i64 0) := (blk_cell BK389.out 2).trans rfl; have hfz69_0 := blk_frozen BK389.out 0; have hfz69_1 := blk_frozen BK389.out 1; have hfz69_2 := blk_frozen BK389.out 2) | ((with_reducible refine gate_callee (f := 14) rfl ?_); refine goesL_ (some 18) rfl rfl Try.func14 (by kernel_rfl) rfl #[.agg #[.slice Ao66 t384.length co66, .int .i64 t387, .int .i64 t388]] rfl (by (try simp only [List.map_toArray, List.map_cons, List.map_nil]); first | done | rfl | (simp only [List.length_drop, List.length_take]; rfl)) ?_; (with_reducible refine (remontoirref03_Right.calls k _ _ t384 t387 t388 false _ ?side1 ?side2 A10.out).mono ?_); (case side1 => refine (Kd.V_reads' (e := 3) (base := w.heap.size) (ok := fun k_ => ((k_ ≠ gb376 ∧ k_ ≠ gb383) ∧ k_ ≠ gb389)) (n := t384.length) (c := co66) ?_).2.2; exact (by (with_reducible repeat (first | apply Kd.V_alloc | apply Kd.V_drewN | apply Kd.V_drew)); exact (Kd.V_mono (Kd.V_far (p := ⟨gb389, 2, none⟩) (Kd.V_far (p := ⟨gb389, 1, none⟩) (Kd.V_far (p := ⟨gb389, 0, none⟩) (Kd.V_mono HO386.out (fun k_ hk => (⟨hk, hk.2⟩ : _ ∧ k_ ≠ gb389))) (fun _ hk => hk.2) (.slice Ao66 t384.length co66)) (fun _ hk => hk.2) (.int .i64 t387)) (fun _ hk => hk.2) (.int .i64 t388)) (fun _ h_ => h_.1)))); (case side2 => exact (Kd.V_reads' HO386.out).2.1); rintro e w70 ⟨rfl, hb⟩; refine ⟨_, rfl, ?_⟩; have n0_ := Aside0.mk (Kd.V_below (by (with_reducible repeat (first | apply Kd.V_alloc | apply Kd.V_drewN | apply Kd.V_drew)); exact (Kd.V_mono (Kd.V_far (p := ⟨gb389, 2, none⟩) (Kd.V_far (p := ⟨gb389, 1, none⟩) (Kd.V_far (p := ⟨gb389, 0, none⟩) (Kd.V_mono HO380.out (fun k_ hk => (⟨hk, hk.2⟩ : _ ∧ k_ ≠ gb389))) (fun _ hk => hk.2) (.slice Ao66 t384.length co66)) (fun _ hk => hk.2) (.int .i64 t387)) (fun _ hk => hk.2) (.int .i64 t388)) (fun _ h_ => h_.1))) hb); have n1_ := Aside0.mk (Kd.V_below (by (with_reducible repeat (first | apply Kd.V_alloc | apply Kd.V_drewN | apply Kd.V_drew)); exact (Kd.V_mono (Kd.V_far (p := ⟨gb389, 2, none⟩) (Kd.V_far (p := ⟨gb389, 1, none⟩) (Kd.V_far (p := ⟨gb389, 0, none⟩) (Kd.V_mono HO386.out (fun k_ hk => (⟨hk, hk.2⟩ : _ ∧ k_ ≠ gb389))) (fun _ hk => hk.2) (.slice Ao66 t384.length co66)) (fun _ hk => hk.2) (.int .i64 t387)) (fun _ hk => hk.2) (.int .i64 t388)) (fun _ h_ => h_.1))) hb); have n2_ := Aside0.mk (blk_below (g := gb376) (o := .cells #[.slice A0_0 l0_0.length c0_0, .int .i64 a0_1, .int .i64 a0_2] 24 (0, 0)) (by (with_reducible repeat (first | refine blk_drewN ?_ _ | refine blk_drew ?_ | refine blk_alloc ?_ _)); refine blk_far ?_ NB376_389.out _; (with_reducible repeat (first | refine blk_drewN ?_ _ | refine blk_drew ?_ | refine blk_alloc ?_ _)); refine blk_far ?_ NB376_389.out _; (with_reducible repeat (first | refine blk_drewN ?_ _ | refine blk_drew ?_ | refine blk_alloc ?_ _)); refine blk_far ?_ NB376_389.out _; (with_reducible repeat (first | refine blk_drewN ?_ _ | refine blk_drew ?_ | refine blk_alloc ?_ _)); exact BK376.out) hb); have n3_ := Aside0.mk (blk_below (g := gb383) (o := .cells #[.slice Ao59 t378.length co59, .int .i64 t381, .int .i64 t382] 24 (0, 0)) (by (with_reducible repeat (first | refine blk_drewN ?_ _ | refine blk_drew ?_ | refine blk_alloc ?_ _)); refine blk_far ?_ NB383_389.out _; (with_reducible repeat (first | refine blk_drewN ?_ _ | refine blk_drew ?_ | refine blk_alloc ?_ _)); refine blk_far ?_ NB383_389.out _; (with_reducible repeat (first | refine blk_drewN ?_ _ | refine blk_drew ?_ | refine blk_alloc ?_ _)); refine blk_far ?_ NB383_389.out _; (with_reducible repeat (first | refine blk_drewN ?_ _ | refine blk_drew ?_ | refine blk_alloc ?_ _)); exact BK383.out) hb); have n4_ := Aside0.mk (blk_below (g := gb389) (o := .cells #[.slice Ao66 t384.length co66, .int .i64 t387, .int .i64 t388] 30 (0, 0)) (by (with_reducible repeat (first | refine blk_drewN ?_ _ | refine blk_drew ?_ | refine blk_alloc ?_ _)); refine blk_put (cs := #[.slice Ao66 t384.length co66, .int .i64 t387, .int .i64 0]) ?_ 2 _ rfl; (with_reducible repeat (first | refine blk_drewN ?_ _ | refine blk_drew ?_ | refine blk_alloc ?_ _)); refine blk_put (cs := #[.slice Ao66 t384.length co66, .int .i64 0, .int .i64 0]) ?_ 1 _ rfl; (with_reducible repeat (first | refine blk_drewN ?_ _ | refine blk_drew ?_ | refine blk_alloc ?_ _)); refine blk_put (cs := #[.slice none 0 0, .int .i64 0, .int .i64 0]) ?_ 0 _ rfl; (with_reducible repeat (first | refine blk_drewN ?_ _ | refine blk_drew ?_ | refine blk_alloc ?_ _)); exact BK389.out) hb); have n5_ := Aside0.mk (below_step (by repeat (first | (with_reducible first | exact HB.out | apply below_alloc | apply pw_below_drewN | apply below_drew1 | refine below_set ?_ GE376.out | refine below_set ?_ GE383.out | refine below_set ?_ GE389.out) | exact HB.out)) hb); clear HO380; clear HO386; clear BK376; clear BK383; clear BK389; clear HB; have HO380 := n0_; have HO386 := n1_; have BK376 := n2_; have BK383 := n3_; have BK389 := n4_; have HB := n5_; clear n0_ n1_ n2_ n3_ n4_ n5_; (try clear hb); (try clear hb2); (try clear hk); (try clear hi)))
        have n0_ := Aside0.mk (Kd.V_drew HO380.out)
        have n1_ := Aside0.mk (Kd.V_drew HO386.out)
        have n2_ := Aside0.mk (blk_drew BK376.out)
        have n3_ := Aside0.mk (blk_drew BK383.out)
        have n4_ := Aside0.mk (blk_drew BK389.out)
        have n5_ := Aside0.mk (below_drew1 HB.out)
        clear HO380
        clear HO386
        clear BK376
        clear BK383
        clear BK389
        clear HB
        have HO380 := n0_
        have HO386 := n1_
        have BK376 := n2_
        have BK383 := n3_
        have BK389 := n4_
        have HB := n5_
        clear n0_ n1_ n2_ n3_ n4_ n5_
        refine start_ (n := 8) (S := fun w' => w'.cell? ⟨gb383, 0, none⟩ = some (.slice Ao59 t378.length co59) ∧ w'.cell? ⟨gb383, 1, none⟩ = some (.int .i64 t381) ∧ w'.cell? ⟨gb383, 2, none⟩ = some (.int .i64 t382) ∧ w'.cell? ⟨gb389, 0, none⟩ = some (.slice Ao66 t384.length co66) ∧ w'.cell? ⟨gb389, 1, none⟩ = some (.int .i64 t387) ∧ w'.cell? ⟨gb389, 2, none⟩ = some (.int .i64 t388)) (ds := []) #[false, false, false, false, false, false, false, false] (by kernel_rfl) rfl rfl ⟨(blk_cell BK383.out 0).trans rfl, (blk_cell BK383.out 1).trans rfl, (blk_cell BK383.out 2).trans rfl, (blk_cell BK389.out 0).trans rfl, (blk_cell BK389.out 1).trans rfl, (blk_cell BK389.out 2).trans rfl⟩ (fun hHeld => ?_); refine with_tabW remontoirlaw03_RingPuts.tab6 remontoirlaw03_RingPuts.bits6 (fun HT_ HW_ => ?_)
        generalize w70.drew = w71 at HO380 HO386 BK376 BK383 BK389 HB hHeld ⊢
        refine take_ (i := 0) (N := some 20) (v := ?_) (a' := ?_) #[true, false, false, false, false, false, false, false] rfl rfl (take_ofW HT_.out HW_.out (by kernel_rfl)) (fun _ _ _ h => h) (Or.inl ⟨by rfl, ?_⟩) hHeld ?_ ?_
        rotate_left
        · rintro w' ⟨s0, s1, s2, s3, s4, s5⟩
          go_simp
          with_reducible rfl
        rotate_left
        · simp only [Act.put, List.setIfInBounds_toArray, List.set_cons_zero, List.set_cons_succ, i64_w, i32_w]
          rfl
        refine take_ (i := 2) (N := some 22) (v := ?_) (a' := ?_) #[true, false, true, false, false, false, false, false] rfl rfl (take_ofW HT_.out HW_.out (by kernel_rfl)) (fun _ _ _ h => h) (Or.inl ⟨by rfl, ?_⟩) hHeld ?_ ?_
        rotate_left
        · rintro w' ⟨s0, s1, s2, s3, s4, s5⟩
          go_simp
          with_reducible rfl
        rotate_left
        · simp only [Act.put, List.setIfInBounds_toArray, List.set_cons_zero, List.set_cons_succ, i64_w, i32_w]
          rfl
        refine one_ (i := 1) (N := some 21) #[true, true, true, false, false, false, false, false] rfl rfl (one_of HT_.out (by kernel_rfl)) (by decide) (fun K hK => ?_)
        refine goes_ Try.func15 (by kernel_rfl) rfl #[.agg #[.slice Ao59 t378.length co59, .int .i64 t381, .int .i64 t382]] (by rfl) rfl rfl (by (try simp only [List.map_toArray, List.map_cons, List.map_nil]); first | done | rfl | (simp only [List.length_drop, List.length_take]; rfl)) ?_
        with_reducible refine (remontoirlaw03_As.calls (fun k_ => ((k_ ≠ gb376 ∧ k_ ≠ gb383) ∧ k_ ≠ gb389)) _ _ t378 t381 t382 t391 t394 t395 _ ?side1 A51.out).mono ?_
        (case side1 => exact HO380.out)
        rintro e w72 ⟨v392, rfl, ho0, hb⟩
        refine ⟨_, rfl, ?_⟩
        have n0_ := Aside0.mk (Kd.V_below (by (with_reducible repeat (first | apply Kd.V_alloc | apply Kd.V_drewN | apply Kd.V_drew)); exact HO380.out) hb)
        have n1_ := Aside0.mk (Kd.V_below (by (with_reducible repeat (first | apply Kd.V_alloc | apply Kd.V_drewN | apply Kd.V_drew)); exact HO386.out) hb)
        have n2_ := Aside0.mk (Kd.V_lower (Kd.V_mono (ok' := fun k_ => k_ ≠ gb376 ∧ k_ ≠ gb383 ∧ k_ ≠ gb389) ho0 (fun k_ hk_ => ⟨Or.elim hk_ (fun hs_ => hs_.1.1) (fun hn_ => (Kd.freshB (g := gb376) (o := .cells #[.slice A0_0 l0_0.length c0_0, .int .i64 a0_1, .int .i64 a0_2] 24 (0, 0)) (by (with_reducible repeat (first | refine blk_drewN ?_ _ | refine blk_drew ?_ | refine blk_alloc ?_ _)); exact BK376.out) k_ hn_)), Or.elim hk_ (fun hs_ => hs_.1.2) (fun hn_ => (Kd.freshB (g := gb383) (o := .cells #[.slice Ao59 t378.length co59, .int .i64 t381, .int .i64 t382] 24 (0, 0)) (by (with_reducible repeat (first | refine blk_drewN ?_ _ | refine blk_drew ?_ | refine blk_alloc ?_ _)); exact BK383.out) k_ hn_)), Or.elim hk_ (fun hs_ => hs_.2) (fun hn_ => (Kd.freshB (g := gb389) (o := .cells #[.slice Ao66 t384.length co66, .int .i64 t387, .int .i64 t388] 30 (0, 0)) (by (with_reducible repeat (first | refine blk_drewN ?_ _ | refine blk_drew ?_ | refine blk_alloc ?_ _)); exact BK389.out) k_ hn_))⟩)) (below_size (by repeat (first | (with_reducible first | exact HB.out | apply below_alloc | apply pw_below_drewN | apply below_drew1 | refine below_set ?_ GE376.out | refine below_set ?_ GE383.out | refine below_set ?_ GE389.out) | exact HB.out))))
        have n3_ := Aside0.mk (blk_below (g := gb376) (o := .cells #[.slice A0_0 l0_0.length c0_0, .int .i64 a0_1, .int .i64 a0_2] 24 (0, 0)) (by (with_reducible repeat (first | refine blk_drewN ?_ _ | refine blk_drew ?_ | refine blk_alloc ?_ _)); exact BK376.out) hb)
        have n4_ := Aside0.mk (blk_below (g := gb383) (o := .cells #[.slice Ao59 t378.length co59, .int .i64 t381, .int .i64 t382] 24 (0, 0)) (by (with_reducible repeat (first | refine blk_drewN ?_ _ | refine blk_drew ?_ | refine blk_alloc ?_ _)); exact BK383.out) hb)
        have n5_ := Aside0.mk (blk_below (g := gb389) (o := .cells #[.slice Ao66 t384.length co66, .int .i64 t387, .int .i64 t388] 30 (0, 0)) (by (with_reducible repeat (first | refine blk_drewN ?_ _ | refine blk_drew ?_ | refine blk_alloc ?_ _)); exact BK389.out) hb)
        have n6_ := Aside0.mk (below_step (by repeat (first | (with_reducible first | exact HB.out | apply below_alloc | apply pw_below_drewN | apply below_drew1 | refine below_set ?_ GE376.out | refine below_set ?_ GE383.out | refine below_set ?_ GE389.out) | exact HB.out)) hb)
        clear HO380
        clear HO386
        clear BK376
        clear BK383
        clear BK389
        clear HB
        have HO380 := n0_
        have HO386 := n1_
        have HO393 := n2_
        have BK376 := n3_
        have BK383 := n4_
        have BK389 := n5_
        have HB := n6_
        clear n0_ n1_ n2_ n3_ n4_ n5_ n6_
        (try clear hb)
        (try clear hb2)
        (try clear hk)
        (try clear hi)
        (try clear ho0)
        obtain ⟨Ao73, co73, eo73⟩ := Kd.V_slice HO393.out
        (first | subst eo73 | (injection eo73 with f1_ f2_ f3_; have f4_ := f1_.symm; have f5_ := f3_.symm; clear f1_ f2_ f3_; subst f4_; subst f5_))
        refine hK.out _ _ ⟨(blk_cell BK383.out 0).trans rfl, (blk_cell BK383.out 1).trans rfl, (blk_cell BK383.out 2).trans rfl, (blk_cell BK389.out 0).trans rfl, (blk_cell BK389.out 1).trans rfl, (blk_cell BK389.out 2).trans rfl⟩ (fun hHeld => ?_)
        clear hK K
        refine norm_ (a' := ?_) ?_ ?_
        rotate_left
        · show Act.put _ (some 21) _ = _
          simp only [Act.put, List.setIfInBounds_toArray, List.set_cons_zero, List.set_cons_succ, i64_w, i32_w]
          rfl
        refine one_ (i := 3) (N := some 23) #[true, true, true, true, false, false, false, false] rfl rfl (one_of HT_.out (by kernel_rfl)) (by decide) (fun K hK => ?_)
        refine goes_ Try.func20 (by kernel_rfl) rfl #[.agg #[.slice Ao73 t391.length co73, .int .i64 t394, .int .i64 t395], .agg #[.slice Ao66 t384.length co66, .int .i64 t387, .int .i64 t388]] (by rfl) rfl rfl (by (try simp only [List.map_toArray, List.map_cons, List.map_nil]); first | done | rfl | (simp only [List.length_drop, List.length_take]; rfl)) ?_
        with_reducible refine (remontoirref03_Same.calls k _ _ t391 t394 t395 _ _ t384 t387 t388 true _ ?side1 ?side2 ?side3 ?side4 A52.out).mono ?_
        (case side1 => repeat (first | exact (Kd.V_reads' HO393.out).2.2 | (with_reducible refine Kd.C_alloc ?_ _) | (with_reducible refine Kd.C_drewN ?_ _) | (with_reducible refine Kd.C_drew ?_)))
        (case side2 => exact (Kd.V_reads' HO393.out).2.1)
        (case side3 => repeat (first | exact (Kd.V_reads' HO386.out).2.2 | (with_reducible refine Kd.C_alloc ?_ _) | (with_reducible refine Kd.C_drewN ?_ _) | (with_reducible refine Kd.C_drew ?_)))
        (case side4 => exact (Kd.V_reads' HO386.out).2.1)
        rintro e w74 ⟨rfl, hb⟩
        refine ⟨_, rfl, ?_⟩
        have n0_ := Aside0.mk (Kd.V_below (by (with_reducible repeat (first | apply Kd.V_alloc | apply Kd.V_drewN | apply Kd.V_drew)); exact HO380.out) hb)
        have n1_ := Aside0.mk (Kd.V_below (by (with_reducible repeat (first | apply Kd.V_alloc | apply Kd.V_drewN | apply Kd.V_drew)); exact HO386.out) hb)
        have n2_ := Aside0.mk (Kd.V_below (by (with_reducible repeat (first | apply Kd.V_alloc | apply Kd.V_drewN | apply Kd.V_drew)); exact HO393.out) hb)
        have n3_ := Aside0.mk (blk_below (g := gb376) (o := .cells #[.slice A0_0 l0_0.length c0_0, .int .i64 a0_1, .int .i64 a0_2] 24 (0, 0)) (by (with_reducible repeat (first | refine blk_drewN ?_ _ | refine blk_drew ?_ | refine blk_alloc ?_ _)); exact BK376.out) hb)
        have n4_ := Aside0.mk (blk_below (g := gb383) (o := .cells #[.slice Ao59 t378.length co59, .int .i64 t381, .int .i64 t382] 24 (0, 0)) (by (with_reducible repeat (first | refine blk_drewN ?_ _ | refine blk_drew ?_ | refine blk_alloc ?_ _)); exact BK383.out) hb)
        have n5_ := Aside0.mk (blk_below (g := gb389) (o := .cells #[.slice Ao66 t384.length co66, .int .i64 t387, .int .i64 t388] 30 (0, 0)) (by (with_reducible repeat (first | refine blk_drewN ?_ _ | refine blk_drew ?_ | refine blk_alloc ?_ _)); exact BK389.out) hb)
        have n6_ := Aside0.mk (below_step (by repeat (first | (with_reducible first | exact HB.out | apply below_alloc | apply pw_below_drewN | apply below_drew1 | refine below_set ?_ GE376.out | refine below_set ?_ GE383.out | refine below_set ?_ GE389.out) | exact HB.out)) hb)
        clear HO380
        clear HO386
        clear HO393
        clear BK376
        clear BK383
        clear BK389
        clear HB
        have HO380 := n0_
        have HO386 := n1_
        have HO393 := n2_
        have BK376 := n3_
        have BK383 := n4_
        have BK389 := n5_
        have HB := n6_
        clear n0_ n1_ n2_ n3_ n4_ n5_ n6_
        (try clear hb)
        (try clear hb2)
        (try clear hk)
        (try clear hi)
        refine hK.out _ _ ⟨(blk_cell BK383.out 0).trans rfl, (blk_cell BK383.out 1).trans rfl, (blk_cell BK383.out 2).trans rfl, (blk_cell BK389.out 0).trans rfl, (blk_cell BK389.out 1).trans rfl, (blk_cell BK389.out 2).trans rfl⟩ (fun hHeld => ?_)
        clear hK K
        refine norm_ (a' := ?_) ?_ ?_
        rotate_left
        · show Act.put _ (some 23) _ = _
          simp only [Act.put, List.setIfInBounds_toArray, List.set_cons_zero, List.set_cons_succ, i64_w, i32_w]
          rfl
        refine pure_ (i := 4) (N := some 24) (v := ?_) (a' := ?_) #[true, true, true, true, true, false, false, false] rfl rfl (any_of HT_.out (by kernel_rfl)) (fun _ _ _ h => h) (Or.inl ⟨by rfl, ?_⟩) ?_ ?_
        rotate_left
        · intro w'
          go_simp
          with_reducible rfl
        rotate_left
        · simp only [Act.put, List.setIfInBounds_toArray, List.set_cons_zero, List.set_cons_succ, i64_w, i32_w]
          rfl
        refine one_ (i := 5) (N := some 25) #[true, true, true, true, true, true, false, false] rfl rfl (one_of HT_.out (by kernel_rfl)) (by decide) (fun K hK => ?_)
        refine goes_ Try.func12 (by kernel_rfl) rfl #[] (by rfl) rfl rfl (by (try simp only [List.map_toArray, List.map_cons, List.map_nil]); first | done | rfl | (simp only [List.length_drop, List.length_take]; rfl)) ?_
        with_reducible refine (remontoirlaw03_knows.calls k  t397 _ A54.out).mono ?_
        rintro e w75 ⟨rfl, hb⟩
        refine ⟨_, rfl, ?_⟩
        have n0_ := Aside0.mk (Kd.V_below (by (with_reducible repeat (first | apply Kd.V_alloc | apply Kd.V_drewN | apply Kd.V_drew)); exact HO380.out) hb)
        have n1_ := Aside0.mk (Kd.V_below (by (with_reducible repeat (first | apply Kd.V_alloc | apply Kd.V_drewN | apply Kd.V_drew)); exact HO386.out) hb)
        have n2_ := Aside0.mk (Kd.V_below (by (with_reducible repeat (first | apply Kd.V_alloc | apply Kd.V_drewN | apply Kd.V_drew)); exact HO393.out) hb)
        have n3_ := Aside0.mk (blk_below (g := gb376) (o := .cells #[.slice A0_0 l0_0.length c0_0, .int .i64 a0_1, .int .i64 a0_2] 24 (0, 0)) (by (with_reducible repeat (first | refine blk_drewN ?_ _ | refine blk_drew ?_ | refine blk_alloc ?_ _)); exact BK376.out) hb)
        have n4_ := Aside0.mk (blk_below (g := gb383) (o := .cells #[.slice Ao59 t378.length co59, .int .i64 t381, .int .i64 t382] 24 (0, 0)) (by (with_reducible repeat (first | refine blk_drewN ?_ _ | refine blk_drew ?_ | refine blk_alloc ?_ _)); exact BK383.out) hb)
        have n5_ := Aside0.mk (blk_below (g := gb389) (o := .cells #[.slice Ao66 t384.length co66, .int .i64 t387, .int .i64 t388] 30 (0, 0)) (by (with_reducible repeat (first | refine blk_drewN ?_ _ | refine blk_drew ?_ | refine blk_alloc ?_ _)); exact BK389.out) hb)
        have n6_ := Aside0.mk (below_step (by repeat (first | (with_reducible first | exact HB.out | apply below_alloc | apply pw_below_drewN | apply below_drew1 | refine below_set ?_ GE376.out | refine below_set ?_ GE383.out | refine below_set ?_ GE389.out) | exact HB.out)) hb)
        clear HO380
        clear HO386
        clear HO393
        clear BK376
        clear BK383
        clear BK389
        clear HB
        have HO380 := n0_
        have HO386 := n1_
        have HO393 := n2_
        have BK376 := n3_
        have BK383 := n4_
        have BK389 := n5_
        have HB := n6_
        clear n0_ n1_ n2_ n3_ n4_ n5_ n6_
        (try clear hb)
        (try clear hb2)
        (try clear hk)
        (try clear hi)
        refine hK.out _ _ ⟨(blk_cell BK383.out 0).trans rfl, (blk_cell BK383.out 1).trans rfl, (blk_cell BK383.out 2).trans rfl, (blk_cell BK389.out 0).trans rfl, (blk_cell BK389.out 1).trans rfl, (blk_cell BK389.out 2).trans rfl⟩ (fun hHeld => ?_)
        clear hK K
        refine norm_ (a' := ?_) ?_ ?_
        rotate_left
        · show Act.put _ (some 25) _ = _
          simp only [Act.put, List.setIfInBounds_toArray, List.set_cons_zero, List.set_cons_succ, i64_w, i32_w]
          rfl
        refine pure_ (i := 6) (N := some 26) (v := ?_) (a' := ?_) #[true, true, true, true, true, true, true, false] rfl rfl (any_of HT_.out (by kernel_rfl)) (fun _ _ _ h => h) (Or.inl ⟨by rfl, ?_⟩) ?_ ?_
        rotate_left
        · intro w'
          go_simp
          with_reducible rfl
        rotate_left
        · simp only [Act.put, List.setIfInBounds_toArray, List.set_cons_zero, List.set_cons_succ, i64_w, i32_w]
          rfl
        refine pure_ (i := 7) (N := some 4) (v := ?_) (a' := ?_) #[true, true, true, true, true, true, true, true] rfl rfl (any_of HT_.out (by kernel_rfl)) (fun _ _ _ h => h) (Or.inl ⟨by rfl, ?_⟩) ?_ ?_
        rotate_left
        · intro w'
          go_simp
          with_reducible rfl
        rotate_left
        · simp only [Act.put, List.setIfInBounds_toArray, List.set_cons_zero, List.set_cons_succ, i64_w, i32_w]
          rfl
        refine done_ (done_of HT_.out (by kernel_rfl)) ?_
        try go_wp2
        go_ret
        exact ⟨by first | rfl | (rw [HR_.out] <;> rfl) | (simp [errW_none, errW_some] <;> rfl) | (simp [*, errW_none, errW_some] <;> rfl), by repeat (first | (with_reducible first | exact HB.out | apply below_alloc | apply pw_below_drewN | apply below_drew1 | refine below_set ?_ GE376.out | refine below_set ?_ GE383.out | refine below_set ?_ GE389.out) | exact HB.out)⟩
      · replace c53 := Bool.eq_false_iff.mpr c53
        subst c53
        have H1 : (some false) = some true := by rw [if_neg (show ¬ (false = true) by decide)] at H; exact H
        clear H
        have H := H1
        clear H1
        exact absurd H (by simp)

/-- The statement of remontoirlaw03_RingPuts over plain data. -/
def remontoirlaw03_RingPuts.Pure : Prop := ∀ (l0_0 : List Int) (a0_1 : Int) (a0_2 : Int) (a1 : Int), (l0_0.length ≤ 9223372036854775807 ∧ ∀ x ∈ l0_0, (Lit.int .i64 x).wf = true) → (Lit.int .i64 a0_1).wf = true → (Lit.int .i64 a0_2).wf = true → (Lit.int .i64 a1).wf = true → ∃ k, remontoirlaw03_RingPuts.f k l0_0 a0_1 a0_2 a1 = some true

end Go.Proofs.Yteddflcloeelhaa.FRing
