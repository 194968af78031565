-- Written by the session (wip/tools) for this claim: functions of the program as Lean functions, and their contracts.
import Derived.Test.YtkfkghnmbemdiaaTFSynthx0
import Derived.Test.YtkfkghnmbemdiaaTFSynthx3
import Derived.Test.YtkfkghnmbemdiaaTFSynthx4
import Derived.Test.YtkfkghnmbemdiaaTFSynthx5
import Derived.Test.YtkfkghnmbemdiaaTFSynthx7
import Derived.Test.YtkfkghnmbemdiaaTFSynthx8
import Derived.Test.YtkfkghnmbemdiaaTFSynthx10
namespace Go.Proofs.Ytkfkghnmbemdiaa.FSynth
open Go.RowKit Go.Proofs.YtkfkghnmbemdiaaW.PrintWords Go.Proofs.YtkfkghnmbemdiaaW.PrintLast Go.Proofs.YtkfkghnmbemdiaaW.PrintMore
attribute [local go_sem] max2_int min2_int max_two min_two max_three min_three max_four min_four   -- for this text's walks alone
set_option linter.unusedVariables false
set_option linter.unusedSimpArgs false

/-! ### table_Make: function 35 -/
def table_Make.f (k : Nat) (l0 : List (S54)) : Option (Int × (List (S46)) × Int) := (synth_Lay.f k l0).bind fun bt199 => (if bt199.2 = 0 then ((table_Of.f k bt199.1).bind fun bt203 => (some (bt203.1, bt203.2.1, bt203.2.2))) else (some (0, ([] : List (S46)), bt199.2)))
theorem table_Make.mono : ∀ a0 k, LeO (table_Make.f k a0) (table_Make.f (k + 1) a0) := by
  intro a0 k
  unfold table_Make.f
  repeat' first
      | (with_reducible exact synth_Lay.mono _ _)
      | (with_reducible exact table_Of.mono _ _)
      | (with_reducible exact LeO.refl _)
      | (with_reducible exact LeO.none _)
      | (with_reducible refine LeO.ite ?_ ?_)
      | (with_reducible refine LeO.bind ?_ (fun _ => ?_))
      | exact synth_Lay.mono _ _
      | exact table_Of.mono _ _
      | exact LeO.none _
      | refine LeO.ite ?_ ?_
      | refine LeO.bind ?_ (fun _ => ?_)
set_option maxHeartbeats 8000000 in
set_option maxRecDepth 100000 in
theorem table_Make.calls (k : Nat) (A0 : Option Addr) (c0 : Nat) (l0 : List (S54)) (r1 : Int) (r2 : List (S46)) (r3 : Int) (w : World) (hr0 : Kd.C k54 w A0 l0.length l0) (hc0 : l0.length ≤ c0) (h : table_Make.f k l0 = some (r1, r2, r3)) :
    Calls Try.prog 35 #[.slice A0 l0.length c0] w fun e w' => ∃ v1_ : Value, e = .returned (.tuple #[.agg #[.int .i64 r1, v1_], .int .i64 r3]) ∧ Kd.R k46 46 w' w.heap.size (fun _ => True) v1_ r2 ∧ Below w.heap.size w w' := by
  have hu24 := Try.underlying24
  have HR0 := Aside0.mk hr0
  have HC0 := Aside0.mk hc0
  clear hr0 hc0
  have HB := Aside0.mk (Below.refl w.heap.size w)
  have H : ((synth_Lay.f k l0).bind fun bt199 => (if bt199.2 = 0 then ((table_Of.f k bt199.1).bind fun bt203 => (some (bt203.1, bt203.2.1, bt203.2.2))) else (some (0, ([] : List (S46)), bt199.2)))) = some (r1, r2, r3) := h
  clear h
  replace H := Option.bind_eq_some_iff.mp H
  obtain ⟨⟨t199, t200⟩, A20, H⟩ := H
  replace H : (if t200 = 0 then ((table_Of.f k t199).bind fun bt203 => (some (bt203.1, bt203.2.1, bt203.2.2))) else (some (0, ([] : List (S46)), t200))) = some (r1, r2, r3) := H
  have A2 := Aside0.mk A20
  clear A20
  by_cases c3 : t200 = 0
  · rw [if_pos c3] at H
    have c3b0 : (t200 == 0) = true := beq_iff_eq.mpr c3
    have c3b1 : (t200 != 0) = false := bne_eq_false_iff_eq.mpr c3
    clear c3
    replace H := Option.bind_eq_some_iff.mp H
    obtain ⟨⟨t203, t204, t207⟩, A40, H⟩ := H
    replace H : (some (t203, t204, t207)) = some (r1, r2, r3) := H
    have A4 := Aside0.mk A40
    clear A40
    simp only [Option.some.injEq, Prod.mk.injEq] at H
    obtain ⟨rfl, rfl, rfl⟩ := H
    go_enter Try.func35, Try.ntmps35
    go_wp2_with (first | ((with_reducible refine gate_dst (N := 2) rfl ?_); refine box_event ?hg (N := 2) ?hd (cs := #[.int .i64 0, .slice none 0 0]) (t := 24) ?hr ?_; (case hd => rfl); (case hg => rfl); (case hr => first | (go_simp; done) | (go_simp; rfl)); intro gb198 hg w5 hbox hb; have n0_ := Aside0.mk (below_step (by repeat (first | (with_reducible first | exact HB.out | apply below_alloc | apply pw_below_drewN | apply below_drew1) | exact HB.out)) hb); have n1_ := Aside0.mk (hbox); have n2_ := Aside0.mk ((by rw [hg]; exact (below_size (by repeat (first | (with_reducible first | exact HB.out | apply below_alloc | apply pw_below_drewN | apply below_drew1) | exact HB.out))) : w.heap.size ≤ gb198)); have n3_ := Aside0.mk ((by rw [hg]; exact (below_size (by repeat (first | (with_reducible first | exact HB.out | apply below_alloc | apply pw_below_drewN | apply below_drew1) | exact HB.out))) : w.heap.size ≤ gb198)); clear HB; have HB := n0_; have BK198 := n1_; have GW198 := n2_; have GE198 := n3_; clear n0_ n1_ n2_ n3_; clear hb hbox hg) | ((with_reducible refine gate_callee (f := 26) rfl ?_); refine goesL_ (some 8) rfl rfl Try.func26 (by kernel_rfl) rfl #[.slice A0 l0.length c0] rfl (by (try simp only [List.map_toArray, List.map_cons, List.map_nil]); first | done | rfl | (simp only [List.length_drop, List.length_take]; rfl)) ?_; (with_reducible refine (synth_Lay.calls k _ _ l0 t199 t200 _ ?side1 ?side2 A2.out).mono ?_); (case side1 => repeat (first | exact (Kd.C_below HR0.out HB.out) | (with_reducible refine Kd.C_alloc ?_ _) | (with_reducible refine Kd.C_drewN ?_ _) | (with_reducible refine Kd.C_drew ?_))); (case side2 => exact HC0.out); rintro e w6 ⟨v201, rfl, ho0, hb⟩; refine ⟨_, rfl, ?_⟩; have n0_ := Aside0.mk (Kd.R_lower ho0 (below_size (by repeat (first | (with_reducible first | exact HB.out | apply below_alloc | apply pw_below_drewN | apply below_drew1 | refine below_set ?_ GE198.out) | exact HB.out)))); have n1_ := Aside0.mk (blk_below (g := gb198) (o := .cells #[.int .i64 0, .slice none 0 0] 24 (0, 0)) (by (with_reducible repeat (first | refine blk_drewN ?_ _ | refine blk_drew ?_ | refine blk_alloc ?_ _)); exact BK198.out) hb); have n2_ := Aside0.mk (below_step (by repeat (first | (with_reducible first | exact HB.out | apply below_alloc | apply pw_below_drewN | apply below_drew1 | refine below_set ?_ GE198.out) | exact HB.out)) hb); clear BK198; clear HB; have HO202 := n0_; have BK198 := n1_; have HB := n2_; clear n0_ n1_ n2_; (try clear hb); (try clear hb2); (try clear hk); (try clear hi); (try clear ho0); obtain ⟨Ao7, co7, eo7⟩ := Kd.R_slice HO202.out; subst eo7) | ((with_reducible refine gate_callee (f := 21) rfl ?_); refine goesL_ (some 16) rfl rfl Try.func21 (by kernel_rfl) rfl #[.slice Ao7 t199.length co7] rfl (by (try simp only [List.map_toArray, List.map_cons, List.map_nil]); first | done | rfl | (simp only [List.length_drop, List.length_take]; rfl)) ?_; (with_reducible refine (table_Of.calls k _ _ t199 t203 t204 t207 _ ?side1 ?side2 A4.out).mono ?_); (case side1 => repeat (first | exact (Kd.R_reads' HO202.out).2.2 | (with_reducible refine Kd.C_alloc ?_ _) | (with_reducible refine Kd.C_drewN ?_ _) | (with_reducible refine Kd.C_drew ?_))); (case side2 => exact (Kd.R_reads' HO202.out).2.1); rintro e w8 ⟨v205, rfl, ho0, hb⟩; refine ⟨_, rfl, ?_⟩; have n0_ := Aside0.mk (Kd.R_below (by (with_reducible repeat (first | apply Kd.R_alloc | apply Kd.R_drewN | apply Kd.R_drew)); exact HO202.out) hb); have n1_ := Aside0.mk (Kd.R_lower ho0 (below_size (by repeat (first | (with_reducible first | exact HB.out | apply below_alloc | apply pw_below_drewN | apply below_drew1 | refine below_set ?_ GE198.out) | exact HB.out)))); have n2_ := Aside0.mk (blk_below (g := gb198) (o := .cells #[.int .i64 0, .slice none 0 0] 24 (0, 0)) (by (with_reducible repeat (first | refine blk_drewN ?_ _ | refine blk_drew ?_ | refine blk_alloc ?_ _)); exact BK198.out) hb); have n3_ := Aside0.mk (below_step (by repeat (first | (with_reducible first | exact HB.out | apply below_alloc | apply pw_below_drewN | apply below_drew1 | refine below_set ?_ GE198.out) | exact HB.out)) hb); clear HO202; clear BK198; clear HB; have HO202 := n0_; have HO206 := n1_; have BK198 := n2_; have HB := n3_; clear n0_ n1_ n2_ n3_; (try clear hb); (try clear hb2); (try clear hk); (try clear hi); (try clear ho0); have hcz9_0 : w8.cell? ⟨gb198, 0, none⟩ = some (.int .i64 0) := (blk_cell BK198.out 0).trans rfl; have hcz9_1 : w8.cell? ⟨gb198, 1, none⟩ = some (.slice none 0 0) := (blk_cell BK198.out 1).trans rfl; have hfz9_0 := blk_frozen BK198.out 0; have hfz9_1 := blk_frozen BK198.out 1; obtain ⟨Ao10, co10, eo10⟩ := Kd.R_slice HO206.out; subst eo10))
    refine bodyPost_ret (results_ct rfl _ _ gb198 24 #[.int .i64 t203, .slice Ao10 t204.length co10] (0, 0) _ rfl (by (with_reducible repeat (first | refine blk_drewN ?_ _ | refine blk_drew ?_ | refine blk_alloc ?_ _)); refine blk_put (cs := #[.int .i64 t203, .slice none 0 0]) ?_ 1 _ rfl; (with_reducible repeat (first | refine blk_drewN ?_ _ | refine blk_drew ?_ | refine blk_alloc ?_ _)); refine blk_put (cs := #[.int .i64 0, .slice none 0 0]) ?_ 0 _ rfl; (with_reducible repeat (first | refine blk_drewN ?_ _ | refine blk_drew ?_ | refine blk_alloc ?_ _)); exact BK198.out) Try.underlying24 rfl (by kernel_rfl)) rfl ?_
    exact ⟨_, by first | rfl | (rw [HR_.out] <;> rfl) | (simp [errW_none, errW_some] <;> rfl) | (simp [*, errW_none, errW_some] <;> rfl), by (with_reducible repeat (first | apply Kd.R_alloc | apply Kd.R_drewN | apply Kd.R_drew)); exact Kd.R_mono (Kd.R_far (p := ⟨gb198, 1, none⟩) (Kd.R_far (p := ⟨gb198, 0, none⟩) (Kd.R_types HO206.out BK198.out (by decide)) (fun _ hk => hk.2) (.int .i64 t203)) (fun _ hk => hk.2) (.slice Ao10 t204.length co10)) (fun _ hk => trivial), by repeat (first | (with_reducible first | exact HB.out | apply below_alloc | apply pw_below_drewN | apply below_drew1 | refine below_set ?_ GE198.out) | exact HB.out)⟩
  · rw [if_neg c3] at H
    have c3b0 : (t200 == 0) = false := beq_eq_false_iff_ne.mpr c3
    have c3b1 : (t200 != 0) = true := bne_iff_ne.mpr c3
    simp only [Option.some.injEq, Prod.mk.injEq] at H
    obtain ⟨rfl, rfl, rfl⟩ := H
    go_enter Try.func35, Try.ntmps35
    go_wp2_with (first | ((with_reducible refine gate_dst (N := 2) rfl ?_); refine box_event ?hg (N := 2) ?hd (cs := #[.int .i64 0, .slice none 0 0]) (t := 24) ?hr ?_; (case hd => rfl); (case hg => rfl); (case hr => first | (go_simp; done) | (go_simp; rfl)); intro gb198 hg w11 hbox hb; have n0_ := Aside0.mk (below_step (by repeat (first | (with_reducible first | exact HB.out | apply below_alloc | apply pw_below_drewN | apply below_drew1) | exact HB.out)) hb); have n1_ := Aside0.mk (hbox); have n2_ := Aside0.mk ((by rw [hg]; exact (below_size (by repeat (first | (with_reducible first | exact HB.out | apply below_alloc | apply pw_below_drewN | apply below_drew1) | exact HB.out))) : w.heap.size ≤ gb198)); have n3_ := Aside0.mk ((by rw [hg]; exact (below_size (by repeat (first | (with_reducible first | exact HB.out | apply below_alloc | apply pw_below_drewN | apply below_drew1) | exact HB.out))) : w.heap.size ≤ gb198)); clear HB; have HB := n0_; have BK198 := n1_; have GW198 := n2_; have GE198 := n3_; clear n0_ n1_ n2_ n3_; clear hb hbox hg) | ((with_reducible refine gate_callee (f := 26) rfl ?_); refine goesL_ (some 8) rfl rfl Try.func26 (by kernel_rfl) rfl #[.slice A0 l0.length c0] rfl (by (try simp only [List.map_toArray, List.map_cons, List.map_nil]); first | done | rfl | (simp only [List.length_drop, List.length_take]; rfl)) ?_; (with_reducible refine (synth_Lay.calls k _ _ l0 t199 t200 _ ?side1 ?side2 A2.out).mono ?_); (case side1 => repeat (first | exact (Kd.C_below HR0.out HB.out) | (with_reducible refine Kd.C_alloc ?_ _) | (with_reducible refine Kd.C_drewN ?_ _) | (with_reducible refine Kd.C_drew ?_))); (case side2 => exact HC0.out); rintro e w12 ⟨v201, rfl, ho0, hb⟩; refine ⟨_, rfl, ?_⟩; have n0_ := Aside0.mk (Kd.R_lower ho0 (below_size (by repeat (first | (with_reducible first | exact HB.out | apply below_alloc | apply pw_below_drewN | apply below_drew1 | refine below_set ?_ GE198.out) | exact HB.out)))); have n1_ := Aside0.mk (blk_below (g := gb198) (o := .cells #[.int .i64 0, .slice none 0 0] 24 (0, 0)) (by (with_reducible repeat (first | refine blk_drewN ?_ _ | refine blk_drew ?_ | refine blk_alloc ?_ _)); exact BK198.out) hb); have n2_ := Aside0.mk (below_step (by repeat (first | (with_reducible first | exact HB.out | apply below_alloc | apply pw_below_drewN | apply below_drew1 | refine below_set ?_ GE198.out) | exact HB.out)) hb); clear BK198; clear HB; have HO202 := n0_; have BK198 := n1_; have HB := n2_; clear n0_ n1_ n2_; (try clear hb); (try clear hb2); (try clear hk); (try clear hi); (try clear ho0); have hcz13_0 : w12.cell? ⟨gb198, 0, none⟩ = some (.int .i64 0) := (blk_cell BK198.out 0).trans rfl; have hcz13_1 : w12.cell? ⟨gb198, 1, none⟩ = some (.slice none 0 0) := (blk_cell BK198.out 1).trans rfl; have hfz13_0 := blk_frozen BK198.out 0; have hfz13_1 := blk_frozen BK198.out 1))
    refine bodyPost_ret (results_ct rfl _ _ gb198 24 #[.int .i64 0, .slice none 0 0] (0, 0) _ rfl (by (with_reducible repeat (first | refine blk_drewN ?_ _ | refine blk_drew ?_ | refine blk_alloc ?_ _)); refine blk_put (cs := #[.int .i64 0, .slice none 0 0]) ?_ 1 _ rfl; (with_reducible repeat (first | refine blk_drewN ?_ _ | refine blk_drew ?_ | refine blk_alloc ?_ _)); refine blk_put (cs := #[.int .i64 0, .slice none 0 0]) ?_ 0 _ rfl; (with_reducible repeat (first | refine blk_drewN ?_ _ | refine blk_drew ?_ | refine blk_alloc ?_ _)); exact BK198.out) Try.underlying24 rfl (by kernel_rfl)) rfl ?_
    exact ⟨_, by first | rfl | (rw [HR_.out] <;> rfl) | (simp [errW_none, errW_some] <;> rfl) | (simp [*, errW_none, errW_some] <;> rfl), by first | exact Kd.R_nil _ _ _ _ _ | exact Kd.N_nil _ _ _ _ _ | exact Kd.V_nil _ _ _ _ _ | exact Kd.Q_nil _ _ _ _ _ | exact Kd.S_nil _ _ _ _ _, by repeat (first | (with_reducible first | exact HB.out | apply below_alloc | apply pw_below_drewN | apply below_drew1 | refine below_set ?_ GE198.out) | exact HB.out)⟩

/-! ### remontoirlaw13_TableSupplies: function 12 -/
mutual
def remontoirlaw13_TableSupplies.j0 : Nat → List (S54) → Int → Int → Bool → Option (Bool)
  | 0, _, _, _, _ => none
  | k + 1, x0, x1, x2, x24 => if x24 = true then ((remontoirlaw13_knows.f k).bind fun t208 => (some t208)) else ((table_Make.f k x0).bind fun bt209 => ((remontoirref12_Lay.f k x0).bind fun bt215 => (if bt215.2 = 0 then (remontoirlaw13_TableSupplies.j1 k x0 x1 x2 bt209.2.2 bt215.1 bt215.2 ((x0.length : Int) == 0) bt209.1 bt209.2.1) else (remontoirlaw13_TableSupplies.j1 k x0 x1 x2 bt209.2.2 bt215.1 bt215.2 true bt209.1 bt209.2.1))))
def remontoirlaw13_TableSupplies.j1 : Nat → List (S54) → Int → Int → Int → List Int → Int → Bool → Int → List (S46) → Option (Bool)
  | 0, _, _, _, _, _, _, _, _, _ => none
  | k + 1, x0, x1, x2, x8, x9, x10, x42, x215000, x215001 => if x42 = true then (if x10 = 0 then (if x8 = x10 then ((remontoirlaw13_knows.f k).bind fun t219 => (some t219)) else (some false)) else ((remontoirlaw13_Same.f k x215000 x215001 0 ([] : List (S46))).bind fun t220 => (if t220 = true then (if x8 = x10 then ((remontoirlaw13_knows.f k).bind fun t221 => (some t221)) else (some false)) else (some false)))) else (if (x0.length : Int) = 0 then (none) else ((table_Least.f k x215000 x215001 (Int.tmod (wrap64 (x1)) (x0.length : Int)) x2).bind fun bt222 => (if x8 = 0 then (if bt222.2 = 0 then ((remontoirref13_Ticks.f k x215000 x215001).bind fun t224 => ((remontoirref05_SameInts.f k t224 x9).bind fun t227 => (if t227 = true then (if 0 ≤ (Int.tmod (wrap64 (x1)) (x0.length : Int)) then (if (Int.tmod (wrap64 (x1)) (x0.length : Int)) < (x0.length : Int) then ((remontoirref09_Bound.f k ((rd_T54 x0 (Int.tmod (wrap64 (x1)) (x0.length : Int))).f0) ((rd_T54 x0 (Int.tmod (wrap64 (x1)) (x0.length : Int))).f1) x2).bind fun t229 => (if bt222.1 ≥ t229 then ((remontoirlaw13_knows.f k).bind fun t230 => (some t230)) else (some false))) else (none)) else (none)) else (some false)))) else (some false)) else (some false))))
end
def remontoirlaw13_TableSupplies.f (k : Nat) (l0 : List (S54)) (a1 : Int) (a2 : Int) : Option (Bool) := if (l0.length : Int) > 20 then (remontoirlaw13_TableSupplies.j0 k l0 a1 a2 true) else (if a2 < 0 then (remontoirlaw13_TableSupplies.j0 k l0 a1 a2 true) else (remontoirlaw13_TableSupplies.j0 k l0 a1 a2 (decide (a2 > 2000))))
theorem remontoirlaw13_TableSupplies.mono_l : ∀ k, (∀ y0 y1 y2 y3, LeO (remontoirlaw13_TableSupplies.j0 k y0 y1 y2 y3) (remontoirlaw13_TableSupplies.j0 (k + 1) y0 y1 y2 y3)) ∧ (∀ y0 y1 y2 y3 y4 y5 y6 y7 y8, LeO (remontoirlaw13_TableSupplies.j1 k y0 y1 y2 y3 y4 y5 y6 y7 y8) (remontoirlaw13_TableSupplies.j1 (k + 1) y0 y1 y2 y3 y4 y5 y6 y7 y8))
  | 0 => ⟨fun _ _ _ _ r h => by simp [remontoirlaw13_TableSupplies.j0] at h, fun _ _ _ _ _ _ _ _ _ r h => by simp [remontoirlaw13_TableSupplies.j1] at h⟩
  | k + 1 => by
    obtain ⟨ih0, ih1⟩ := remontoirlaw13_TableSupplies.mono_l k
    refine ⟨?_, ?_⟩
    · intro y0 y1 y2 y3
      unfold remontoirlaw13_TableSupplies.j0
      repeat' first
      | (with_reducible exact ih0 _ _ _ _)
      | (with_reducible exact ih1 _ _ _ _ _ _ _ _ _)
      | (with_reducible exact remontoirlaw13_Same.mono _ _ _ _ _)
      | (with_reducible exact remontoirlaw13_knows.mono _)
      | (with_reducible exact remontoirref05_SameInts.mono _ _ _)
      | (with_reducible exact remontoirref09_Bound.mono _ _ _ _)
      | (with_reducible exact remontoirref12_Lay.mono _ _)
      | (with_reducible exact remontoirref13_Ticks.mono _ _ _)
      | (with_reducible exact table_Least.mono _ _ _ _ _)
      | (with_reducible exact table_Make.mono _ _)
      | (with_reducible exact LeO.refl _)
      | (with_reducible exact LeO.none _)
      | (with_reducible refine LeO.ite ?_ ?_)
      | (with_reducible refine LeO.bind ?_ (fun _ => ?_))
      | exact ih0 _ _ _ _
      | exact ih1 _ _ _ _ _ _ _ _ _
      | exact remontoirlaw13_Same.mono _ _ _ _ _
      | exact remontoirlaw13_knows.mono _
      | exact remontoirref05_SameInts.mono _ _ _
      | exact remontoirref09_Bound.mono _ _ _ _
      | exact remontoirref12_Lay.mono _ _
      | exact remontoirref13_Ticks.mono _ _ _
      | exact table_Least.mono _ _ _ _ _
      | exact table_Make.mono _ _
      | exact LeO.none _
      | refine LeO.ite ?_ ?_
      | refine LeO.bind ?_ (fun _ => ?_)
    · intro y0 y1 y2 y3 y4 y5 y6 y7 y8
      unfold remontoirlaw13_TableSupplies.j1
      repeat' first
      | (with_reducible exact ih0 _ _ _ _)
      | (with_reducible exact ih1 _ _ _ _ _ _ _ _ _)
      | (with_reducible exact remontoirlaw13_Same.mono _ _ _ _ _)
      | (with_reducible exact remontoirlaw13_knows.mono _)
      | (with_reducible exact remontoirref05_SameInts.mono _ _ _)
      | (with_reducible exact remontoirref09_Bound.mono _ _ _ _)
      | (with_reducible exact remontoirref12_Lay.mono _ _)
      | (with_reducible exact remontoirref13_Ticks.mono _ _ _)
      | (with_reducible exact table_Least.mono _ _ _ _ _)
      | (with_reducible exact table_Make.mono _ _)
      | (with_reducible exact LeO.refl _)
      | (with_reducible exact LeO.none _)
      | (with_reducible refine LeO.ite ?_ ?_)
      | (with_reducible refine LeO.bind ?_ (fun _ => ?_))
      | exact ih0 _ _ _ _
      | exact ih1 _ _ _ _ _ _ _ _ _
      | exact remontoirlaw13_Same.mono _ _ _ _ _
      | exact remontoirlaw13_knows.mono _
      | exact remontoirref05_SameInts.mono _ _ _
      | exact remontoirref09_Bound.mono _ _ _ _
      | exact remontoirref12_Lay.mono _ _
      | exact remontoirref13_Ticks.mono _ _ _
      | exact table_Least.mono _ _ _ _ _
      | exact table_Make.mono _ _
      | exact LeO.none _
      | refine LeO.ite ?_ ?_
      | refine LeO.bind ?_ (fun _ => ?_)
theorem remontoirlaw13_TableSupplies.mono : ∀ a0 a1 a2 k, LeO (remontoirlaw13_TableSupplies.f k a0 a1 a2) (remontoirlaw13_TableSupplies.f (k + 1) a0 a1 a2) := by
  intro a0 a1 a2 k
  obtain ⟨ih0, ih1⟩ := remontoirlaw13_TableSupplies.mono_l k
  unfold remontoirlaw13_TableSupplies.f
  repeat' first
      | (with_reducible exact ih0 _ _ _ _)
      | (with_reducible exact ih1 _ _ _ _ _ _ _ _ _)
      | (with_reducible exact remontoirlaw13_Same.mono _ _ _ _ _)
      | (with_reducible exact remontoirlaw13_knows.mono _)
      | (with_reducible exact remontoirref05_SameInts.mono _ _ _)
      | (with_reducible exact remontoirref09_Bound.mono _ _ _ _)
      | (with_reducible exact remontoirref12_Lay.mono _ _)
      | (with_reducible exact remontoirref13_Ticks.mono _ _ _)
      | (with_reducible exact table_Least.mono _ _ _ _ _)
      | (with_reducible exact table_Make.mono _ _)
      | (with_reducible exact LeO.refl _)
      | (with_reducible exact LeO.none _)
      | (with_reducible refine LeO.ite ?_ ?_)
      | (with_reducible refine LeO.bind ?_ (fun _ => ?_))
      | exact ih0 _ _ _ _
      | exact ih1 _ _ _ _ _ _ _ _ _
      | exact remontoirlaw13_Same.mono _ _ _ _ _
      | exact remontoirlaw13_knows.mono _
      | exact remontoirref05_SameInts.mono _ _ _
      | exact remontoirref09_Bound.mono _ _ _ _
      | exact remontoirref12_Lay.mono _ _
      | exact remontoirref13_Ticks.mono _ _ _
      | exact table_Least.mono _ _ _ _ _
      | exact table_Make.mono _ _
      | exact LeO.none _
      | refine LeO.ite ?_ ?_
      | refine LeO.bind ?_ (fun _ => ?_)
set_option maxHeartbeats 8000000 in
set_option maxRecDepth 100000 in
theorem remontoirlaw13_TableSupplies.calls (k : Nat) (A0 : Option Addr) (c0 : Nat) (l0 : List (S54)) (a1 : Int) (a2 : Int) (w : World) (hr0 : Kd.C k54 w A0 l0.length l0) (hc0 : l0.length ≤ c0) (h : remontoirlaw13_TableSupplies.f k l0 a1 a2 = some true) :
    Calls Try.prog 12 #[.slice A0 l0.length c0, .int .u8 a1, .int .i64 a2] w fun e w' => e = .returned (.bool true) ∧ Below w.heap.size w w' := by
  have hu24 := Try.underlying24
  have hu54 := Try.underlying54
  have HR0 := Aside0.mk hr0
  have HC0 := Aside0.mk hc0
  clear hr0 hc0
  have HB := Aside0.mk (Below.refl w.heap.size w)
  have H : (if (l0.length : Int) > 20 then (remontoirlaw13_TableSupplies.j0 k l0 a1 a2 true) else (if a2 < 0 then (remontoirlaw13_TableSupplies.j0 k l0 a1 a2 true) else (remontoirlaw13_TableSupplies.j0 k l0 a1 a2 (decide (a2 > 2000))))) = some true := h
  clear h
  have HC4 := Aside0.mk H
  clear H
  go_enter Try.func12, Try.ntmps12
  go_upto_region 1 with (fail)
  go_cut [24] (fun v24 wc => ∃ (kq : Nat) (x24_3 : Bool), v24 = .bool x24_3 ∧ Aside0 (remontoirlaw13_TableSupplies.j0 kq l0 a1 a2 x24_3 = some true) ∧ Aside0 (kq ≤ k) ∧ Aside0 (Below w.heap.size w wc))
  case first =>
    have H := HC4.out
    clear HC4
    by_cases c5 : (l0.length : Int) > 20
    · rw [if_pos c5] at H
      have c5b0 : decide (20 < (l0.length : Int)) = true := decide_eq_true c5
      have c5b1 : decide (20 < l0.length) = true := decide_eq_true (by omega)
      clear c5
      (first | rw [c5b0] | (simp only [i64_w, i32_w]; rw [c5b0]) | rw [c5b1] | (simp only [i64_w, i32_w]; rw [c5b1]) | skip)
      have H' := Aside0.mk H
      clear H
      go_wp2
      go_meet
      case rel => exact ⟨_, (true), (by first | rfl | (simp; done) | (simp [*]; done)), H', ⟨by first | omega | exact Nat.le_refl _⟩, ⟨by repeat (first | (with_reducible first | exact HB.out | apply below_alloc | apply pw_below_drewN | apply below_drew1) | exact HB.out)⟩⟩
    · rw [if_neg c5] at H
      have c5b0 : decide (20 < (l0.length : Int)) = false := decide_eq_false c5
      have c5b1 : decide (20 < l0.length) = false := decide_eq_false (by omega)
      clear c5
      (first | rw [c5b0] | (simp only [i64_w, i32_w]; rw [c5b0]) | rw [c5b1] | (simp only [i64_w, i32_w]; rw [c5b1]) | skip)
      by_cases c6 : a2 < 0
      · rw [if_pos c6] at H
        have c6b0 : decide (a2 < 0) = true := decide_eq_true c6
        clear c6
        have H' := Aside0.mk H
        clear H
        go_wp2
        go_meet
        case rel => exact ⟨_, (true), (by first | rfl | (simp; done) | (simp [*]; done)), H', ⟨by first | omega | exact Nat.le_refl _⟩, ⟨by repeat (first | (with_reducible first | exact HB.out | apply below_alloc | apply pw_below_drewN | apply below_drew1) | exact HB.out)⟩⟩
      · rw [if_neg c6] at H
        have c6b0 : decide (a2 < 0) = false := decide_eq_false c6
        clear c6
        have H' := Aside0.mk H
        clear H
        go_wp2
        go_meet
        case rel => exact ⟨_, (decide (a2 > 2000)), (by first | rfl | (simp; done) | (simp [*]; done)), H', ⟨by first | omega | exact Nat.le_refl _⟩, ⟨by repeat (first | (with_reducible first | exact HB.out | apply below_alloc | apply pw_below_drewN | apply below_drew1) | exact HB.out)⟩⟩
  case rest =>
    clear HC4
    try clear c1
    try clear p2
    try clear c5
    try clear c5b0
    try clear c5b1
    try clear c6
    try clear c6b0
    obtain ⟨kq, x24_3, rfl, HA, HJ3, HB⟩ := hcut
    cases kq with
    | zero => exact absurd HA.out (by simp [remontoirlaw13_TableSupplies.j0])
    | succ kj3 =>
      have H := HA.out
      clear HA
      simp only [remontoirlaw13_TableSupplies.j0] at H
      by_cases c7 : x24_3 = true
      · subst c7
        have H1 : ((remontoirlaw13_knows.f kj3).bind fun t208 => (some t208)) = some true := by rw [if_pos rfl] at H; exact H
        clear H
        have H := H1
        clear H1
        replace H := Option.bind_eq_some_iff.mp H
        obtain ⟨t208, A80, H⟩ := H
        replace H : (some t208) = some true := H
        have A8 := Aside0.mk A80
        clear A80
        have HR_ := Aside0.mk (Option.some.inj H)
        clear H
        go_wp2_with (first | ((with_reducible refine gate_callee (f := 13) rfl ?_); refine goesL_ (some 25) rfl rfl Try.func13 (by kernel_rfl) rfl #[] rfl (by (try simp only [List.map_toArray, List.map_cons, List.map_nil]); first | done | rfl | (simp only [List.length_drop, List.length_take]; rfl)) ?_; (with_reducible refine (remontoirlaw13_knows.calls kj3  t208 _ A8.out).mono ?_); rintro e w9 ⟨rfl, hb⟩; refine ⟨_, rfl, ?_⟩; have n0_ := Aside0.mk (below_step (by repeat (first | (with_reducible first | exact HB.out | apply below_alloc | apply pw_below_drewN | apply below_drew1) | exact HB.out)) hb); clear HB; have HB := n0_; clear n0_; (try clear hb); (try clear hb2); (try clear hk); (try clear hi)))
        go_ret
        exact ⟨by first | rfl | (rw [HR_.out] <;> rfl) | (simp [errW_none, errW_some] <;> rfl) | (simp [*, errW_none, errW_some] <;> rfl), by repeat (first | (with_reducible first | exact HB.out | apply below_alloc | apply pw_below_drewN | apply below_drew1) | exact HB.out)⟩
      · replace c7 := Bool.eq_false_iff.mpr c7
        subst c7
        have H1 : ((table_Make.f kj3 l0).bind fun bt209 => ((remontoirref12_Lay.f kj3 l0).bind fun bt215 => (if bt215.2 = 0 then (remontoirlaw13_TableSupplies.j1 kj3 l0 a1 a2 bt209.2.2 bt215.1 bt215.2 ((l0.length : Int) == 0) bt209.1 bt209.2.1) else (remontoirlaw13_TableSupplies.j1 kj3 l0 a1 a2 bt209.2.2 bt215.1 bt215.2 true bt209.1 bt209.2.1)))) = some true := by rw [if_neg (show ¬ (false = true) by decide)] at H; exact H
        clear H
        have H := H1
        clear H1
        replace H := Option.bind_eq_some_iff.mp H
        obtain ⟨⟨t209, t210, t213⟩, A100, H⟩ := H
        replace H : ((remontoirref12_Lay.f kj3 l0).bind fun bt215 => (if bt215.2 = 0 then (remontoirlaw13_TableSupplies.j1 kj3 l0 a1 a2 t213 bt215.1 bt215.2 ((l0.length : Int) == 0) t209 t210) else (remontoirlaw13_TableSupplies.j1 kj3 l0 a1 a2 t213 bt215.1 bt215.2 true t209 t210))) = some true := H
        have A10 := Aside0.mk A100
        clear A100
        replace H := Option.bind_eq_some_iff.mp H
        obtain ⟨⟨t215, t216⟩, A110, H⟩ := H
        replace H : (if t216 = 0 then (remontoirlaw13_TableSupplies.j1 kj3 l0 a1 a2 t213 t215 t216 ((l0.length : Int) == 0) t209 t210) else (remontoirlaw13_TableSupplies.j1 kj3 l0 a1 a2 t213 t215 t216 true t209 t210)) = some true := H
        have A11 := Aside0.mk A110
        clear A110
        have HC12 := Aside0.mk H
        clear H
        go_upto_region 5 with (first | ((with_reducible refine gate_callee (f := 35) rfl ?_); refine goesL_ (some 28) rfl rfl Try.func35 (by kernel_rfl) rfl #[.slice A0 l0.length c0] rfl (by (try simp only [List.map_toArray, List.map_cons, List.map_nil]); first | done | rfl | (simp only [List.length_drop, List.length_take]; rfl)) ?_; (with_reducible refine (table_Make.calls kj3 _ _ l0 t209 t210 t213 _ ?side1 ?side2 A10.out).mono ?_); (case side1 => repeat (first | exact (Kd.C_below HR0.out HB.out) | (with_reducible refine Kd.C_alloc ?_ _) | (with_reducible refine Kd.C_drewN ?_ _) | (with_reducible refine Kd.C_drew ?_))); (case side2 => exact HC0.out); rintro e w13 ⟨v211, rfl, ho0, hb⟩; refine ⟨_, rfl, ?_⟩; have n0_ := Aside0.mk (Kd.R_lower ho0 (below_size (by repeat (first | (with_reducible first | exact HB.out | apply below_alloc | apply pw_below_drewN | apply below_drew1) | exact HB.out)))); have n1_ := Aside0.mk (below_step (by repeat (first | (with_reducible first | exact HB.out | apply below_alloc | apply pw_below_drewN | apply below_drew1) | exact HB.out)) hb); clear HB; have HO212 := n0_; have HB := n1_; clear n0_ n1_; (try clear hb); (try clear hb2); (try clear hk); (try clear hi); (try clear ho0)) | ((with_reducible refine gate_dst (N := 7) rfl ?_); (try (refine gate_guard (by rfl) ?_; dsimp only)); refine box_event ?hg (N := 7) ?hd (cs := #[.int .i64 0, .slice none 0 0]) (t := 24) ?hr ?_; (case hd => rfl); (case hg => rfl); (case hr => first | (go_simp; done) | (go_simp; rfl)); intro gb214 hg w14 hbox hb; have n0_ := Aside0.mk (Kd.R_below (by (with_reducible repeat (first | apply Kd.R_alloc | apply Kd.R_drewN | apply Kd.R_drew)); exact HO212.out) hb); have n1_ := Aside0.mk (below_step (by repeat (first | (with_reducible first | exact HB.out | apply below_alloc | apply pw_below_drewN | apply below_drew1) | exact HB.out)) hb); have n2_ := Aside0.mk (hbox); have n3_ := Aside0.mk ((by rw [hg]; exact (below_size (by repeat (first | (with_reducible first | exact HB.out | apply below_alloc | apply pw_below_drewN | apply below_drew1) | exact HB.out))) : w.heap.size ≤ gb214)); have n4_ := Aside0.mk ((by rw [hg]; exact (below_size (by repeat (first | (with_reducible first | exact HB.out | apply below_alloc | apply pw_below_drewN | apply below_drew1) | exact HB.out))) : w.heap.size ≤ gb214)); clear HO212; clear HB; have HO212 := n0_; have HB := n1_; have BK214 := n2_; have GW214 := n3_; have GE214 := n4_; clear n0_ n1_ n2_ n3_ n4_; clear hb hbox hg; have hcz15_0 : w14.cell? ⟨gb214, 0, none⟩ = some (.int .i64 0) := (blk_cell BK214.out 0).trans rfl; have hcz15_1 : w14.cell? ⟨gb214, 1, none⟩ = some (.slice none 0 0) := (blk_cell BK214.out 1).trans rfl; have hfz15_0 := blk_frozen BK214.out 0; have hfz15_1 := blk_frozen BK214.out 1; obtain ⟨Ao16, co16, eo16⟩ := Kd.R_slice HO212.out; subst eo16) | ((with_reducible refine gate_callee (f := 27) rfl ?_); refine goesL_ (some 33) rfl rfl Try.func27 (by kernel_rfl) rfl #[.slice A0 l0.length c0] rfl (by (try simp only [List.map_toArray, List.map_cons, List.map_nil]); first | done | rfl | (simp only [List.length_drop, List.length_take]; rfl)) ?_; (with_reducible refine (remontoirref12_Lay.calls kj3 _ _ l0 t215 t216 _ ?side1 ?side2 A11.out).mono ?_); (case side1 => exact Kd.C_below HR0.out (by repeat (first | (with_reducible first | exact HB.out | apply below_alloc | apply pw_below_drewN | apply below_drew1 | refine below_set ?_ GE214.out) | exact HB.out))); (case side2 => exact HC0.out); rintro e w17 ⟨v217, rfl, ho0, hb⟩; refine ⟨_, rfl, ?_⟩; have n0_ := Aside0.mk (Kd.R_below (by (with_reducible repeat (first | apply Kd.R_alloc | apply Kd.R_drewN | apply Kd.R_drew)); exact (Kd.R_mono (Kd.R_far (p := ⟨gb214, 1, none⟩) (Kd.R_far (p := ⟨gb214, 0, none⟩) (Kd.R_types HO212.out BK214.out (by decide)) (fun _ hk => hk.2) (.int .i64 t209)) (fun _ hk => hk.2) (.slice Ao16 t210.length co16)) (fun _ h_ => h_.1))) hb); have n1_ := Aside0.mk (Kd.R_lower ho0 (below_size (by repeat (first | (with_reducible first | exact HB.out | apply below_alloc | apply pw_below_drewN | apply below_drew1 | refine below_set ?_ GE214.out) | exact HB.out)))); have n2_ := Aside0.mk (blk_below (g := gb214) (o := .cells #[.int .i64 t209, .slice Ao16 t210.length co16] 24 (0, 0)) (by (with_reducible repeat (first | refine blk_drewN ?_ _ | refine blk_drew ?_ | refine blk_alloc ?_ _)); refine blk_put (cs := #[.int .i64 t209, .slice none 0 0]) ?_ 1 _ rfl; (with_reducible repeat (first | refine blk_drewN ?_ _ | refine blk_drew ?_ | refine blk_alloc ?_ _)); refine blk_put (cs := #[.int .i64 0, .slice none 0 0]) ?_ 0 _ rfl; (with_reducible repeat (first | refine blk_drewN ?_ _ | refine blk_drew ?_ | refine blk_alloc ?_ _)); exact BK214.out) hb); have n3_ := Aside0.mk (below_step (by repeat (first | (with_reducible first | exact HB.out | apply below_alloc | apply pw_below_drewN | apply below_drew1 | refine below_set ?_ GE214.out) | exact HB.out)) hb); clear HO212; clear BK214; clear HB; have HO212 := n0_; have HO218 := n1_; have BK214 := n2_; have HB := n3_; clear n0_ n1_ n2_ n3_; (try clear hb); (try clear hb2); (try clear hk); (try clear hi); (try clear ho0)))
        (try simp only [Act.put, List.setIfInBounds_toArray, List.set_cons_zero, List.set_cons_succ])
        go_cut [42] (fun v42 wc => ∃ (kq : Nat) (x42_11 : Bool), v42 = .bool x42_11 ∧ Aside0 (remontoirlaw13_TableSupplies.j1 kq l0 a1 a2 t213 t215 t216 x42_11 t209 t210 = some true) ∧ Aside0 (kq ≤ kj3) ∧ Aside0 (Kd.R (Kd.int .i64) 3 wc w.heap.size (fun _ => True) v217 t215) ∧ Aside0 (Kd.R k46 46 wc w.heap.size (fun _ => True) (.slice Ao16 t210.length co16) t210) ∧ Aside0 (wc.heap[gb214]? = some (.cells #[.int .i64 t209, (.slice Ao16 t210.length co16)] 24 (0, 0))) ∧ Aside0 (Below w.heap.size w wc))
        case first =>
          have H := HC12.out
          clear HC12
          by_cases c18 : t216 = 0
          · rw [if_pos c18] at H
            have c18b0 : (t216 == 0) = true := beq_iff_eq.mpr c18
            have c18b1 : (t216 != 0) = false := bne_eq_false_iff_eq.mpr c18
            clear c18
            (first | rw [c18b0] | (simp only [i64_w, i32_w]; rw [c18b0]) | rw [c18b1] | (simp only [i64_w, i32_w]; rw [c18b1]) | skip)
            have H' := Aside0.mk H
            clear H
            go_wp2
            go_meet
            case rel => exact ⟨_, (((l0.length : Int) == 0)), (by first | rfl | (simp; done) | (simp [*]; done)), H', ⟨by have := HJ3.out; first | omega | exact Nat.le_refl _⟩, ⟨by (with_reducible repeat (first | apply Kd.R_alloc | apply Kd.R_drewN | apply Kd.R_drew)); exact HO218.out⟩, ⟨by (with_reducible repeat (first | apply Kd.R_alloc | apply Kd.R_drewN | apply Kd.R_drew)); exact HO212.out⟩, ⟨by (with_reducible repeat (first | refine blk_drewN ?_ _ | refine blk_drew ?_ | refine blk_alloc ?_ _)); exact BK214.out⟩, ⟨by repeat (first | (with_reducible first | exact HB.out | apply below_alloc | apply pw_below_drewN | apply below_drew1 | refine below_set ?_ GE214.out) | exact HB.out)⟩⟩
          · rw [if_neg c18] at H
            have c18b0 : (t216 == 0) = false := beq_eq_false_iff_ne.mpr c18
            have c18b1 : (t216 != 0) = true := bne_iff_ne.mpr c18
            (first | rw [c18b0] | (simp only [i64_w, i32_w]; rw [c18b0]) | rw [c18b1] | (simp only [i64_w, i32_w]; rw [c18b1]) | skip)
            have H' := Aside0.mk H
            clear H
            go_wp2
            go_meet
            case rel => exact ⟨_, (true), (by first | rfl | (simp; done) | (simp [*]; done)), H', ⟨by have := HJ3.out; first | omega | exact Nat.le_refl _⟩, ⟨by (with_reducible repeat (first | apply Kd.R_alloc | apply Kd.R_drewN | apply Kd.R_drew)); exact HO218.out⟩, ⟨by (with_reducible repeat (first | apply Kd.R_alloc | apply Kd.R_drewN | apply Kd.R_drew)); exact HO212.out⟩, ⟨by (with_reducible repeat (first | refine blk_drewN ?_ _ | refine blk_drew ?_ | refine blk_alloc ?_ _)); exact BK214.out⟩, ⟨by repeat (first | (with_reducible first | exact HB.out | apply below_alloc | apply pw_below_drewN | apply below_drew1 | refine below_set ?_ GE214.out) | exact HB.out)⟩⟩
        case rest =>
          clear HC12
          try clear c1
          try clear c2
          try clear p2
          try clear c3
          try clear c5
          try clear c5b0
          try clear c5b1
          try clear c6
          try clear c6b0
          try clear c7
          try clear c12
          try clear c13
          try clear c18
          try clear c18b0
          try clear c18b1
          try clear hcz15_0
          try clear hcz15_1
          try clear hfz15_0
          try clear hfz15_1
          try clear p2
          obtain ⟨kq, x42_11, rfl, HA, HJ11, HO_9, HO_215001, BK214, HB⟩ := hcut
          cases kq with
          | zero => exact absurd HA.out (by simp [remontoirlaw13_TableSupplies.j1])
          | succ kj11 =>
            have H := HA.out
            clear HA
            simp only [remontoirlaw13_TableSupplies.j1] at H
            by_cases c19 : x42_11 = true
            · subst c19
              have H1 : (if t216 = 0 then (if t213 = t216 then ((remontoirlaw13_knows.f kj11).bind fun t219 => (some t219)) else (some false)) else ((remontoirlaw13_Same.f kj11 t209 t210 0 ([] : List (S46))).bind fun t220 => (if t220 = true then (if t213 = t216 then ((remontoirlaw13_knows.f kj11).bind fun t221 => (some t221)) else (some false)) else (some false)))) = some true := by rw [if_pos rfl] at H; exact H
              clear H
              have H := H1
              clear H1
              by_cases c20 : t216 = 0
              · rw [if_pos c20] at H
                have c20b0 : (t216 == 0) = true := beq_iff_eq.mpr c20
                have c20b1 : (t216 != 0) = false := bne_eq_false_iff_eq.mpr c20
                clear c20
                by_cases c21 : t213 = t216
                · rw [if_pos c21] at H
                  have c21b0 : (t213 == t216) = true := beq_iff_eq.mpr c21
                  have c21b1 : (t213 != t216) = false := bne_eq_false_iff_eq.mpr c21
                  clear c21
                  replace H := Option.bind_eq_some_iff.mp H
                  obtain ⟨t219, A220, H⟩ := H
                  replace H : (some t219) = some true := H
                  have A22 := Aside0.mk A220
                  clear A220
                  have HR_ := Aside0.mk (Option.some.inj H)
                  clear H
                  go_wp2_with (first | (go_at_call 13; (with_reducible refine (remontoirlaw13_knows.calls kj11  t219 _ A22.out).mono ?_); rintro e w23 ⟨rfl, hb⟩; have n0_ := Aside0.mk (Kd.R_below (by (with_reducible repeat (first | apply Kd.R_alloc | apply Kd.R_drewN | apply Kd.R_drew)); exact HO_9.out) hb); have n1_ := Aside0.mk (Kd.R_below (by (with_reducible repeat (first | apply Kd.R_alloc | apply Kd.R_drewN | apply Kd.R_drew)); exact HO_215001.out) hb); have n2_ := Aside0.mk (blk_below (g := gb214) (o := .cells #[.int .i64 t209, .slice Ao16 t210.length co16] 24 (0, 0)) (by (with_reducible repeat (first | refine blk_drewN ?_ _ | refine blk_drew ?_ | refine blk_alloc ?_ _)); exact BK214.out) hb); have n3_ := Aside0.mk (below_step (by repeat (first | (with_reducible first | exact HB.out | apply below_alloc | apply pw_below_drewN | apply below_drew1 | refine below_set ?_ GE214.out) | exact HB.out)) hb); clear HO_9; clear HO_215001; clear BK214; clear HB; have HO_9 := n0_; have HO_215001 := n1_; have BK214 := n2_; have HB := n3_; clear n0_ n1_ n2_ n3_; (try clear hb); (try clear hb2); (try clear hk); (try clear hi)))
                  go_ret
                  exact ⟨by first | rfl | (rw [HR_.out] <;> rfl) | (simp [errW_none, errW_some] <;> rfl) | (simp [*, errW_none, errW_some] <;> rfl), by repeat (first | (with_reducible first | exact HB.out | apply below_alloc | apply pw_below_drewN | apply below_drew1 | refine below_set ?_ GE214.out) | exact HB.out)⟩
                · rw [if_neg c21] at H
                  have c21b0 : (t213 == t216) = false := beq_eq_false_iff_ne.mpr c21
                  have c21b1 : (t213 != t216) = true := bne_iff_ne.mpr c21
                  exact absurd H (by simp)
              · rw [if_neg c20] at H
                have c20b0 : (t216 == 0) = false := beq_eq_false_iff_ne.mpr c20
                have c20b1 : (t216 != 0) = true := bne_iff_ne.mpr c20
                replace H := Option.bind_eq_some_iff.mp H
                obtain ⟨t220, A240, H⟩ := H
                replace H : (if t220 = true then (if t213 = t216 then ((remontoirlaw13_knows.f kj11).bind fun t221 => (some t221)) else (some false)) else (some false)) = some true := H
                have A24 := Aside0.mk A240
                clear A240
                by_cases c25 : t220 = true
                · subst c25
                  have H1 : (if t213 = t216 then ((remontoirlaw13_knows.f kj11).bind fun t221 => (some t221)) else (some false)) = some true := by rw [if_pos rfl] at H; exact H
                  clear H
                  have H := H1
                  clear H1
                  by_cases c26 : t213 = t216
                  · rw [if_pos c26] at H
                    have c26b0 : (t213 == t216) = true := beq_iff_eq.mpr c26
                    have c26b1 : (t213 != t216) = false := bne_eq_false_iff_eq.mpr c26
                    clear c26
                    replace H := Option.bind_eq_some_iff.mp H
                    obtain ⟨t221, A270, H⟩ := H
                    replace H : (some t221) = some true := H
                    have A27 := Aside0.mk A270
                    clear A270
                    have HR_ := Aside0.mk (Option.some.inj H)
                    clear H
                    have hcz28_0 : wc.cell? ⟨gb214, 0, none⟩ = some (.int .i64 t209) := (blk_cell BK214.out 0).trans rfl
                    have hcz28_1 : wc.cell? ⟨gb214, 1, none⟩ = some (.slice Ao16 t210.length co16) := (blk_cell BK214.out 1).trans rfl
                    have hfz28_0 := blk_frozen BK214.out 0
                    have hfz28_1 := blk_frozen BK214.out 1
                    go_wp2_with (first | (go_at_call 22; (refine (remontoirlaw13_Same.calls kj11 t209 _ _ t210 0 _ _ ([] : List (S46)) true _ ?side1 ?side2 ?side3 ?side4 A24.out).mono ?_); (case side1 => repeat (first | exact (Kd.R_reads' HO_215001.out).2.2 | (with_reducible refine Kd.C_alloc ?_ _) | (with_reducible refine Kd.C_drewN ?_ _) | (with_reducible refine Kd.C_drew ?_))); (case side2 => exact (Kd.R_reads' HO_215001.out).2.1); (case side3 => exact Kd.C_nil _ _); (case side4 => exact Nat.le_refl _); rintro e w29 ⟨rfl, hb⟩; have n0_ := Aside0.mk (Kd.R_below (by (with_reducible repeat (first | apply Kd.R_alloc | apply Kd.R_drewN | apply Kd.R_drew)); exact HO_9.out) hb); have n1_ := Aside0.mk (Kd.R_below (by (with_reducible repeat (first | apply Kd.R_alloc | apply Kd.R_drewN | apply Kd.R_drew)); exact HO_215001.out) hb); have n2_ := Aside0.mk (blk_below (g := gb214) (o := .cells #[.int .i64 t209, .slice Ao16 t210.length co16] 24 (0, 0)) (by (with_reducible repeat (first | refine blk_drewN ?_ _ | refine blk_drew ?_ | refine blk_alloc ?_ _)); exact BK214.out) hb); have n3_ := Aside0.mk (below_step (by repeat (first | (with_reducible first | exact HB.out | apply below_alloc | apply pw_below_drewN | apply below_drew1 | refine below_set ?_ GE214.out) | exact HB.out)) hb); clear HO_9; clear HO_215001; clear BK214; clear HB; have HO_9 := n0_; have HO_215001 := n1_; have BK214 := n2_; have HB := n3_; clear n0_ n1_ n2_ n3_; (try clear hb); (try clear hb2); (try clear hk); (try clear hi)) | (go_at_call 13; (with_reducible refine (remontoirlaw13_knows.calls kj11  t221 _ A27.out).mono ?_); rintro e w30 ⟨rfl, hb⟩; have n0_ := Aside0.mk (Kd.R_below (by (with_reducible repeat (first | apply Kd.R_alloc | apply Kd.R_drewN | apply Kd.R_drew)); exact HO_9.out) hb); have n1_ := Aside0.mk (Kd.R_below (by (with_reducible repeat (first | apply Kd.R_alloc | apply Kd.R_drewN | apply Kd.R_drew)); exact HO_215001.out) hb); have n2_ := Aside0.mk (blk_below (g := gb214) (o := .cells #[.int .i64 t209, .slice Ao16 t210.length co16] 24 (0, 0)) (by (with_reducible repeat (first | refine blk_drewN ?_ _ | refine blk_drew ?_ | refine blk_alloc ?_ _)); exact BK214.out) hb); have n3_ := Aside0.mk (below_step (by repeat (first | (with_reducible first | exact HB.out | apply below_alloc | apply pw_below_drewN | apply below_drew1 | refine below_set ?_ GE214.out) | exact HB.out)) hb); clear HO_9; clear HO_215001; clear BK214; clear HB; have HO_9 := n0_; have HO_215001 := n1_; have BK214 := n2_; have HB := n3_; clear n0_ n1_ n2_ n3_; (try clear hb); (try clear hb2); (try clear hk); (try clear hi)))
                    go_ret
                    exact ⟨by first | rfl | (rw [HR_.out] <;> rfl) | (simp [errW_none, errW_some] <;> rfl) | (simp [*, errW_none, errW_some] <;> rfl), by repeat (first | (with_reducible first | exact HB.out | apply below_alloc | apply pw_below_drewN | apply below_drew1 | refine below_set ?_ GE214.out) | exact HB.out)⟩
                  · rw [if_neg c26] at H
                    have c26b0 : (t213 == t216) = false := beq_eq_false_iff_ne.mpr c26
                    have c26b1 : (t213 != t216) = true := bne_iff_ne.mpr c26
                    exact absurd H (by simp)
                · replace c25 := Bool.eq_false_iff.mpr c25
                  subst c25
                  have H1 : (some false) = some true := by rw [if_neg (show ¬ (false = true) by decide)] at H; exact H
                  clear H
                  have H := H1
                  clear H1
                  exact absurd H (by simp)
            · replace c19 := Bool.eq_false_iff.mpr c19
              subst c19
              have H1 : (if (l0.length : Int) = 0 then (none) else ((table_Least.f kj11 t209 t210 (Int.tmod (wrap64 (a1)) (l0.length : Int)) a2).bind fun bt222 => (if t213 = 0 then (if bt222.2 = 0 then ((remontoirref13_Ticks.f kj11 t209 t210).bind fun t224 => ((remontoirref05_SameInts.f kj11 t224 t215).bind fun t227 => (if t227 = true then (if 0 ≤ (Int.tmod (wrap64 (a1)) (l0.length : Int)) then (if (Int.tmod (wrap64 (a1)) (l0.length : Int)) < (l0.length : Int) then ((remontoirref09_Bound.f kj11 ((rd_T54 l0 (Int.tmod (wrap64 (a1)) (l0.length : Int))).f0) ((rd_T54 l0 (Int.tmod (wrap64 (a1)) (l0.length : Int))).f1) a2).bind fun t229 => (if bt222.1 ≥ t229 then ((remontoirlaw13_knows.f kj11).bind fun t230 => (some t230)) else (some false))) else (none)) else (none)) else (some false)))) else (some false)) else (some false)))) = some true := by rw [if_neg (show ¬ (false = true) by decide)] at H; exact H
              clear H
              have H := H1
              clear H1
              by_cases c31 : (l0.length : Int) = 0
              · rw [if_pos c31] at H
                exact absurd H (by simp)
              · rw [if_neg c31] at H
                have c31b0 : ((l0.length : Int) == 0) = false := beq_eq_false_iff_ne.mpr c31
                have c31b1 : ((l0.length : Int) != 0) = true := bne_iff_ne.mpr c31
                have c31b2 : ¬ (l0 = []) := fun h_ => c31 (by rw [h_]; rfl)
                replace H := Option.bind_eq_some_iff.mp H
                obtain ⟨⟨t222, t223⟩, A320, H⟩ := H
                replace H : (if t213 = 0 then (if t223 = 0 then ((remontoirref13_Ticks.f kj11 t209 t210).bind fun t224 => ((remontoirref05_SameInts.f kj11 t224 t215).bind fun t227 => (if t227 = true then (if 0 ≤ (Int.tmod (wrap64 (a1)) (l0.length : Int)) then (if (Int.tmod (wrap64 (a1)) (l0.length : Int)) < (l0.length : Int) then ((remontoirref09_Bound.f kj11 ((rd_T54 l0 (Int.tmod (wrap64 (a1)) (l0.length : Int))).f0) ((rd_T54 l0 (Int.tmod (wrap64 (a1)) (l0.length : Int))).f1) a2).bind fun t229 => (if t222 ≥ t229 then ((remontoirlaw13_knows.f kj11).bind fun t230 => (some t230)) else (some false))) else (none)) else (none)) else (some false)))) else (some false)) else (some false)) = some true := H
                have A32 := Aside0.mk A320
                clear A320
                by_cases c33 : t213 = 0
                · rw [if_pos c33] at H
                  have c33b0 : (t213 == 0) = true := beq_iff_eq.mpr c33
                  have c33b1 : (t213 != 0) = false := bne_eq_false_iff_eq.mpr c33
                  clear c33
                  by_cases c34 : t223 = 0
                  · rw [if_pos c34] at H
                    have c34b0 : (t223 == 0) = true := beq_iff_eq.mpr c34
                    have c34b1 : (t223 != 0) = false := bne_eq_false_iff_eq.mpr c34
                    clear c34
                    replace H := Option.bind_eq_some_iff.mp H
                    obtain ⟨t224, A350, H⟩ := H
                    replace H : ((remontoirref05_SameInts.f kj11 t224 t215).bind fun t227 => (if t227 = true then (if 0 ≤ (Int.tmod (wrap64 (a1)) (l0.length : Int)) then (if (Int.tmod (wrap64 (a1)) (l0.length : Int)) < (l0.length : Int) then ((remontoirref09_Bound.f kj11 ((rd_T54 l0 (Int.tmod (wrap64 (a1)) (l0.length : Int))).f0) ((rd_T54 l0 (Int.tmod (wrap64 (a1)) (l0.length : Int))).f1) a2).bind fun t229 => (if t222 ≥ t229 then ((remontoirlaw13_knows.f kj11).bind fun t230 => (some t230)) else (some false))) else (none)) else (none)) else (some false))) = some true := H
                    have A35 := Aside0.mk A350
                    clear A350
                    replace H := Option.bind_eq_some_iff.mp H
                    obtain ⟨t227, A360, H⟩ := H
                    replace H : (if t227 = true then (if 0 ≤ (Int.tmod (wrap64 (a1)) (l0.length : Int)) then (if (Int.tmod (wrap64 (a1)) (l0.length : Int)) < (l0.length : Int) then ((remontoirref09_Bound.f kj11 ((rd_T54 l0 (Int.tmod (wrap64 (a1)) (l0.length : Int))).f0) ((rd_T54 l0 (Int.tmod (wrap64 (a1)) (l0.length : Int))).f1) a2).bind fun t229 => (if t222 ≥ t229 then ((remontoirlaw13_knows.f kj11).bind fun t230 => (some t230)) else (some false))) else (none)) else (none)) else (some false)) = some true := H
                    have A36 := Aside0.mk A360
                    clear A360
                    by_cases c37 : t227 = true
                    · subst c37
                      have H1 : (if 0 ≤ (Int.tmod (wrap64 (a1)) (l0.length : Int)) then (if (Int.tmod (wrap64 (a1)) (l0.length : Int)) < (l0.length : Int) then ((remontoirref09_Bound.f kj11 ((rd_T54 l0 (Int.tmod (wrap64 (a1)) (l0.length : Int))).f0) ((rd_T54 l0 (Int.tmod (wrap64 (a1)) (l0.length : Int))).f1) a2).bind fun t229 => (if t222 ≥ t229 then ((remontoirlaw13_knows.f kj11).bind fun t230 => (some t230)) else (some false))) else (none)) else (none)) = some true := by rw [if_pos rfl] at H; exact H
                      clear H
                      have H := H1
                      clear H1
                      obtain ⟨ji38, hji38⟩ : ∃ j_ : Int, (Int.tmod (wrap64 (a1)) (l0.length : Int)) = j_ := ⟨_, rfl⟩
                      replace H : (if 0 ≤ (ji38) then (if (ji38) < (l0.length : Int) then ((remontoirref09_Bound.f kj11 ((rd_T54 l0 (ji38)).f0) ((rd_T54 l0 (ji38)).f1) a2).bind fun t229 => (if t222 ≥ t229 then ((remontoirlaw13_knows.f kj11).bind fun t230 => (some t230)) else (some false))) else (none)) else (none)) = some true := by first | (rw [hji38] at H; exact H) | (simp only [hji38] at H ⊢; exact H)
                      (try rw [hji38] at A32)
                      (try rw [hji38] at A35)
                      (try rw [hji38] at A36)
                      by_cases c39 : 0 ≤ (ji38)
                      · rw [if_pos c39] at H
                        have c39b0 : decide (0 ≤ (ji38)) = true := decide_eq_true c39
                        clear c39
                        by_cases c40 : (ji38) < (l0.length : Int)
                        · rw [if_pos c40] at H
                          have c40b0 : decide ((ji38) < (l0.length : Int)) = true := decide_eq_true c40
                          clear c40
                          replace H := Option.bind_eq_some_iff.mp H
                          obtain ⟨t229, A410, H⟩ := H
                          replace H : (if t222 ≥ t229 then ((remontoirlaw13_knows.f kj11).bind fun t230 => (some t230)) else (some false)) = some true := H
                          have A41 := Aside0.mk A410
                          clear A410
                          by_cases c42 : t222 ≥ t229
                          · rw [if_pos c42] at H
                            have c42b0 : decide (t229 ≤ t222) = true := decide_eq_true c42
                            clear c42
                            replace H := Option.bind_eq_some_iff.mp H
                            obtain ⟨t230, A430, H⟩ := H
                            replace H : (some t230) = some true := H
                            have A43 := Aside0.mk A430
                            clear A430
                            have HR_ := Aside0.mk (Option.some.inj H)
                            clear H
                            have hcz44_0 : wc.cell? ⟨gb214, 0, none⟩ = some (.int .i64 t209) := (blk_cell BK214.out 0).trans rfl
                            have hcz44_1 : wc.cell? ⟨gb214, 1, none⟩ = some (.slice Ao16 t210.length co16) := (blk_cell BK214.out 1).trans rfl
                            have hfz44_0 := blk_frozen BK214.out 0
                            have hfz44_1 := blk_frozen BK214.out 1
                            go_wp2_with (first | ((with_reducible refine gate_callee (f := 23) rfl ?_); refine goesL_ (some 67) rfl rfl Try.func23 (by kernel_rfl) rfl #[.agg #[.int .i64 t209, .slice Ao16 t210.length co16], .int .i64 ji38, .int .i64 a2] rfl (by (try simp only [List.map_toArray, List.map_cons, List.map_nil]); first | done | (simp only [hji38]; rfl) | rfl | (simp only [List.length_drop, List.length_take]; rfl)) ?_; (with_reducible refine (table_Least.calls kj11 t209 _ _ t210 ji38 a2 t222 t223 _ ?side1 ?side2 A32.out).mono ?_); (case side1 => repeat (first | exact (Kd.R_reads' HO_215001.out).2.2 | (with_reducible refine Kd.C_alloc ?_ _) | (with_reducible refine Kd.C_drewN ?_ _) | (with_reducible refine Kd.C_drew ?_))); (case side2 => exact (Kd.R_reads' HO_215001.out).2.1); rintro e w45 ⟨rfl, hb⟩; refine ⟨_, rfl, ?_⟩; have n0_ := Aside0.mk (Kd.R_below (by (with_reducible repeat (first | apply Kd.R_alloc | apply Kd.R_drewN | apply Kd.R_drew)); exact HO_9.out) hb); have n1_ := Aside0.mk (Kd.R_below (by (with_reducible repeat (first | apply Kd.R_alloc | apply Kd.R_drewN | apply Kd.R_drew)); exact HO_215001.out) hb); have n2_ := Aside0.mk (blk_below (g := gb214) (o := .cells #[.int .i64 t209, .slice Ao16 t210.length co16] 24 (0, 0)) (by (with_reducible repeat (first | refine blk_drewN ?_ _ | refine blk_drew ?_ | refine blk_alloc ?_ _)); exact BK214.out) hb); have n3_ := Aside0.mk (below_step (by repeat (first | (with_reducible first | exact HB.out | apply below_alloc | apply pw_below_drewN | apply below_drew1 | refine below_set ?_ GE214.out) | exact HB.out)) hb); clear HO_9; clear HO_215001; clear BK214; clear HB; have HO_9 := n0_; have HO_215001 := n1_; have BK214 := n2_; have HB := n3_; clear n0_ n1_ n2_ n3_; (try clear hb); (try clear hb2); (try clear hk); (try clear hi); have hcz46_0 : w45.cell? ⟨gb214, 0, none⟩ = some (.int .i64 t209) := (blk_cell BK214.out 0).trans rfl; have hcz46_1 : w45.cell? ⟨gb214, 1, none⟩ = some (.slice Ao16 t210.length co16) := (blk_cell BK214.out 1).trans rfl; have hfz46_0 := blk_frozen BK214.out 0; have hfz46_1 := blk_frozen BK214.out 1) | (go_at_call 20; (with_reducible refine (remontoirref13_Ticks.calls kj11 t209 _ _ t210 t224 _ ?side1 ?side2 A35.out).mono ?_); (case side1 => repeat (first | exact (Kd.R_reads' HO_215001.out).2.2 | (with_reducible refine Kd.C_alloc ?_ _) | (with_reducible refine Kd.C_drewN ?_ _) | (with_reducible refine Kd.C_drew ?_))); (case side2 => exact (Kd.R_reads' HO_215001.out).2.1); rintro e w47 ⟨v225, rfl, ho0, hb⟩; have n0_ := Aside0.mk (Kd.R_elder' (by (with_reducible repeat (first | apply Kd.R_alloc | apply Kd.R_drewN | apply Kd.R_drew)); exact HO_9.out) (Kd.R_base ho0) hb); have n1_ := Aside0.mk (Kd.R_below (by (with_reducible repeat (first | apply Kd.R_alloc | apply Kd.R_drewN | apply Kd.R_drew)); exact HO_215001.out) hb); have n2_ := Aside0.mk (Kd.R_lower (Kd.R_new' ho0 (Kd.R_lt (by (with_reducible repeat (first | apply Kd.R_alloc | apply Kd.R_drewN | apply Kd.R_drew)); exact HO_9.out))) (below_size (by repeat (first | (with_reducible first | exact HB.out | apply below_alloc | apply pw_below_drewN | apply below_drew1 | refine below_set ?_ GE214.out) | exact HB.out)))); have n3_ := Aside0.mk (blk_below (g := gb214) (o := .cells #[.int .i64 t209, .slice Ao16 t210.length co16] 24 (0, 0)) (by (with_reducible repeat (first | refine blk_drewN ?_ _ | refine blk_drew ?_ | refine blk_alloc ?_ _)); exact BK214.out) hb); have n4_ := Aside0.mk (below_step (by repeat (first | (with_reducible first | exact HB.out | apply below_alloc | apply pw_below_drewN | apply below_drew1 | refine below_set ?_ GE214.out) | exact HB.out)) hb); clear HO_9; clear HO_215001; clear BK214; clear HB; have HO_9 := n0_; have HO_215001 := n1_; have HO226 := n2_; have BK214 := n3_; have HB := n4_; clear n0_ n1_ n2_ n3_ n4_; (try clear hb); (try clear hb2); (try clear hk); (try clear hi); (try clear ho0); obtain ⟨Ao48, co48, eo48⟩ := Kd.R_slice HO226.out; subst eo48; obtain ⟨Ao49, co49, eo49⟩ := Kd.R_slice HO_9.out; subst eo49) | (go_at_call 19; (with_reducible refine (remontoirref05_SameInts.calls kj11 _ _ t224 _ _ t215 true _ ?side1 ?side2 ?side3 ?side4 A36.out).mono ?_); (case side1 => repeat (first | exact (Kd.R_reads' HO226.out).2.2 | (with_reducible refine Kd.C_alloc ?_ _) | (with_reducible refine Kd.C_drewN ?_ _) | (with_reducible refine Kd.C_drew ?_))); (case side2 => exact (Kd.R_reads' HO226.out).2.1); (case side3 => repeat (first | exact (Kd.R_reads' HO_9.out).2.2 | (with_reducible refine Kd.C_alloc ?_ _) | (with_reducible refine Kd.C_drewN ?_ _) | (with_reducible refine Kd.C_drew ?_))); (case side4 => exact (Kd.R_reads' HO_9.out).2.1); rintro e w' ⟨rfl, ⟨nd, rfl⟩⟩; have p228 : 0 ≤ ((ji38) : Int) := of_decide_eq_true (by first | (with_reducible assumption) | assumption); have q228 : (ji38) < (l0.length : Int) := of_decide_eq_true (by first | (with_reducible assumption) | assumption); obtain ⟨ad228, e228, hx228_0, hx228_1⟩ := at_T54 HR0.out (ji38) p228 q228; cases e228; replace hx228_0 := (HB.out.cell (World.block_lt_of_cell? w _ hx228_0)).trans hx228_0; replace hx228_1 := (HB.out.cell (World.block_lt_of_cell? w _ hx228_1)).trans hx228_1; replace p228 := eq_true p228; replace q228 := eq_true q228) | (go_at_call 34; (with_reducible refine (remontoirref09_Bound.calls kj11 ((rd_T54 l0 (ji38)).f0) ((rd_T54 l0 (ji38)).f1) a2 t229 _ A41.out).mono ?_); rintro e w50 ⟨rfl, hb⟩; have n0_ := Aside0.mk (Kd.R_below (by (with_reducible repeat (first | apply Kd.R_alloc | apply Kd.R_drewN | apply Kd.R_drew)); exact HO_9.out) hb); have n1_ := Aside0.mk (Kd.R_below (by (with_reducible repeat (first | apply Kd.R_alloc | apply Kd.R_drewN | apply Kd.R_drew)); exact HO_215001.out) hb); have n2_ := Aside0.mk (Kd.R_below (by (with_reducible repeat (first | apply Kd.R_alloc | apply Kd.R_drewN | apply Kd.R_drew)); exact HO226.out) hb); have n3_ := Aside0.mk (blk_below (g := gb214) (o := .cells #[.int .i64 t209, .slice Ao16 t210.length co16] 24 (0, 0)) (by (with_reducible repeat (first | refine blk_drewN ?_ _ | refine blk_drew ?_ | refine blk_alloc ?_ _)); exact BK214.out) hb); have n4_ := Aside0.mk (below_step (by repeat (first | (with_reducible first | exact HB.out | apply below_alloc | apply pw_below_drewN | apply below_drew1 | refine below_set ?_ GE214.out) | exact HB.out)) hb); clear HO_9; clear HO_215001; clear HO226; clear BK214; clear HB; have HO_9 := n0_; have HO_215001 := n1_; have HO226 := n2_; have BK214 := n3_; have HB := n4_; clear n0_ n1_ n2_ n3_ n4_; (try clear hb); (try clear hb2); (try clear hk); (try clear hi)) | (go_at_call 13; (with_reducible refine (remontoirlaw13_knows.calls kj11  t230 _ A43.out).mono ?_); rintro e w51 ⟨rfl, hb⟩; have n0_ := Aside0.mk (Kd.R_below (by (with_reducible repeat (first | apply Kd.R_alloc | apply Kd.R_drewN | apply Kd.R_drew)); exact HO_9.out) hb); have n1_ := Aside0.mk (Kd.R_below (by (with_reducible repeat (first | apply Kd.R_alloc | apply Kd.R_drewN | apply Kd.R_drew)); exact HO_215001.out) hb); have n2_ := Aside0.mk (Kd.R_below (by (with_reducible repeat (first | apply Kd.R_alloc | apply Kd.R_drewN | apply Kd.R_drew)); exact HO226.out) hb); have n3_ := Aside0.mk (blk_below (g := gb214) (o := .cells #[.int .i64 t209, .slice Ao16 t210.length co16] 24 (0, 0)) (by (with_reducible repeat (first | refine blk_drewN ?_ _ | refine blk_drew ?_ | refine blk_alloc ?_ _)); exact BK214.out) hb); have n4_ := Aside0.mk (below_step (by repeat (first | (with_reducible first | exact HB.out | apply below_alloc | apply pw_below_drewN | apply below_drew1 | refine below_set ?_ GE214.out) | exact HB.out)) hb); clear HO_9; clear HO_215001; clear HO226; clear BK214; clear HB; have HO_9 := n0_; have HO_215001 := n1_; have HO226 := n2_; have BK214 := n3_; have HB := n4_; clear n0_ n1_ n2_ n3_ n4_; (try clear hb); (try clear hb2); (try clear hk); (try clear hi)))
                            go_ret
                            exact ⟨by first | rfl | (rw [HR_.out] <;> rfl) | (simp [errW_none, errW_some] <;> rfl) | (simp only [← hji38]; first | rfl | (simp [errW_none, errW_some] <;> rfl)) | (simp [*, errW_none, errW_some] <;> rfl), by repeat (first | (with_reducible first | exact HB.out | apply below_alloc | apply pw_below_drewN | apply below_drew1 | refine below_set ?_ GE214.out) | exact HB.out)⟩
                          · rw [if_neg c42] at H
                            have c42b0 : decide (t229 ≤ t222) = false := decide_eq_false c42
                            clear c42
                            exact absurd H (by simp)
                        · rw [if_neg c40] at H
                          exact absurd H (by simp)
                      · rw [if_neg c39] at H
                        exact absurd H (by simp)
                    · replace c37 := Bool.eq_false_iff.mpr c37
                      subst c37
                      have H1 : (some false) = some true := by rw [if_neg (show ¬ (false = true) by decide)] at H; exact H
                      clear H
                      have H := H1
                      clear H1
                      exact absurd H (by simp)
                  · rw [if_neg c34] at H
                    have c34b0 : (t223 == 0) = false := beq_eq_false_iff_ne.mpr c34
                    have c34b1 : (t223 != 0) = true := bne_iff_ne.mpr c34
                    exact absurd H (by simp)
                · rw [if_neg c33] at H
                  have c33b0 : (t213 == 0) = false := beq_eq_false_iff_ne.mpr c33
                  have c33b1 : (t213 != 0) = true := bne_iff_ne.mpr c33
                  exact absurd H (by simp)

/-- The statement of remontoirlaw13_TableSupplies over plain data. -/
def remontoirlaw13_TableSupplies.Pure : Prop := ∀ (l0 : List (S54)) (a1 : Int) (a2 : Int), (l0.length ≤ 9223372036854775807 ∧ ∀ x ∈ l0, ((Lit.int .i64 x.f0).wf = true ∧ (Lit.int .i64 x.f1).wf = true)) → (Lit.int .u8 a1).wf = true → (Lit.int .i64 a2).wf = true → ∃ k, remontoirlaw13_TableSupplies.f k l0 a1 a2 = some true

end Go.Proofs.Ytkfkghnmbemdiaa.FSynth
