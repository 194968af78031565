-- Written by the session (wip/tools) for this claim: functions of the program as Lean functions, and their contracts.
import Derived.Test.YtkfkghnmbemdiaaFTablex0
import Derived.Test.YtkfkghnmbemdiaaFTablex3
import Derived.Test.YtkfkghnmbemdiaaFTablex4
namespace Go.Proofs.Ytkfkghnmbemdiaa.FTable
open Go.RowKit Go.Proofs.YtkfkghnmbemdiaaW.PrintWords Go.Proofs.YtkfkghnmbemdiaaW.PrintLast Go.Proofs.YtkfkghnmbemdiaaW.PrintMore
attribute [local go_sem] max2_int min2_int max_two min_two max_three min_three max_four min_four   -- for this text's walks alone
set_option linter.unusedVariables false
set_option linter.unusedSimpArgs false

/-! ### remontoirlaw13_TableWindows: function 6 -/
mutual
def remontoirlaw13_TableWindows.j0 : Nat → List Int → Int → Bool → Option (Bool)
  | 0, _, _, _ => none
  | k + 1, x0, x1, x21 => if x21 = true then ((remontoirlaw13_knows.f k).bind fun t216 => (some t216)) else ((table_Of.f k x0).bind fun bt217 => (if bt217.2.2 = 0 then (remontoirlaw13_TableWindows.l0 k x0 x1 0 0 0 bt217.1 bt217.2.1) else (if (bt217.2.1.length : Int) = 0 then ((remontoirlaw13_knows.f k).bind fun t223 => (some t223)) else (some false))))
def remontoirlaw13_TableWindows.l0 : Nat → List Int → Int → Int → Int → Int → Int → List (S46) → Option (Bool)
  | 0, _, _, _, _, _, _, _ => none
  | k + 1, x0, x1, x7, x8, x9, x223000, x223001 => if x9 < (x223001.length : Int) then (if 0 ≤ x9 then (remontoirlaw13_TableWindows.l0 k x0 x1 (wrap64 (x7 + ((rd_T46 x223001 x9).f2))) x8 (wrap64 (x9 + 1)) x223000 x223001) else (none)) else (remontoirlaw13_TableWindows.l1 k x0 x1 x7 x8 0 x223000 x223001)
def remontoirlaw13_TableWindows.l1 : Nat → List Int → Int → Int → Int → Int → Int → List (S46) → Option (Bool)
  | 0, _, _, _, _, _, _, _ => none
  | k + 1, x0, x1, x7, x8, x10, x223000, x223001 => if x10 < (x0.length : Int) then (if 0 ≤ x10 then (if (rd x0 x10) ≥ 0 then (remontoirlaw13_TableWindows.l1 k x0 x1 x7 (wrap64 (x8 + 1)) (wrap64 (x10 + 1)) x223000 x223001) else (remontoirlaw13_TableWindows.l1 k x0 x1 x7 x8 (wrap64 (x10 + 1)) x223000 x223001)) else (none)) else (if x7 = x8 then (if x223000 = (x0.length : Int) then ((table_At.f k x223000 x223001 x1).bind fun t226 => (if (x0.length : Int) = 0 then (none) else (if 0 ≤ (Int.tmod x1 (x0.length : Int)) then (if (Int.tmod x1 (x0.length : Int)) < (x0.length : Int) then (if t226 = (rd x0 (Int.tmod x1 (x0.length : Int))) then ((table_At.f k x223000 x223001 (wrap64 (x1 + x223000))).bind fun t228 => ((table_At.f k x223000 x223001 x1).bind fun t229 => (if t228 = t229 then ((remontoirlaw13_knows.f k).bind fun t230 => (some t230)) else (some false)))) else (some false)) else (none)) else (none)))) else (some false)) else (some false))
end
def remontoirlaw13_TableWindows.f (k : Nat) (l0 : List Int) (a1 : Int) : Option (Bool) := if (l0.length : Int) > 300 then (remontoirlaw13_TableWindows.j0 k l0 a1 true) else (if a1 < 0 then (remontoirlaw13_TableWindows.j0 k l0 a1 true) else (remontoirlaw13_TableWindows.j0 k l0 a1 (decide (a1 > 10000))))
theorem remontoirlaw13_TableWindows.mono_l : ∀ k, (∀ y0 y1 y2, LeO (remontoirlaw13_TableWindows.j0 k y0 y1 y2) (remontoirlaw13_TableWindows.j0 (k + 1) y0 y1 y2)) ∧ (∀ y0 y1 y2 y3 y4 y5 y6, LeO (remontoirlaw13_TableWindows.l0 k y0 y1 y2 y3 y4 y5 y6) (remontoirlaw13_TableWindows.l0 (k + 1) y0 y1 y2 y3 y4 y5 y6)) ∧ (∀ y0 y1 y2 y3 y4 y5 y6, LeO (remontoirlaw13_TableWindows.l1 k y0 y1 y2 y3 y4 y5 y6) (remontoirlaw13_TableWindows.l1 (k + 1) y0 y1 y2 y3 y4 y5 y6))
  | 0 => ⟨fun _ _ _ r h => by simp [remontoirlaw13_TableWindows.j0] at h, fun _ _ _ _ _ _ _ r h => by simp [remontoirlaw13_TableWindows.l0] at h, fun _ _ _ _ _ _ _ r h => by simp [remontoirlaw13_TableWindows.l1] at h⟩
  | k + 1 => by
    obtain ⟨ih0, ih1, ih2⟩ := remontoirlaw13_TableWindows.mono_l k
    refine ⟨?_, ?_, ?_⟩
    · intro y0 y1 y2
      unfold remontoirlaw13_TableWindows.j0
      repeat' first
      | (with_reducible exact ih0 _ _ _)
      | (with_reducible exact ih1 _ _ _ _ _ _ _)
      | (with_reducible exact ih2 _ _ _ _ _ _ _)
      | (with_reducible exact remontoirlaw13_knows.mono _)
      | (with_reducible exact table_At.mono _ _ _ _)
      | (with_reducible exact table_Of.mono _ _)
      | (with_reducible exact LeO.refl _)
      | (with_reducible exact LeO.none _)
      | (with_reducible refine LeO.ite ?_ ?_)
      | (with_reducible refine LeO.bind ?_ (fun _ => ?_))
      | exact ih0 _ _ _
      | exact ih1 _ _ _ _ _ _ _
      | exact ih2 _ _ _ _ _ _ _
      | exact remontoirlaw13_knows.mono _
      | exact table_At.mono _ _ _ _
      | exact table_Of.mono _ _
      | exact LeO.none _
      | refine LeO.ite ?_ ?_
      | refine LeO.bind ?_ (fun _ => ?_)
    · intro y0 y1 y2 y3 y4 y5 y6
      unfold remontoirlaw13_TableWindows.l0
      repeat' first
      | (with_reducible exact ih0 _ _ _)
      | (with_reducible exact ih1 _ _ _ _ _ _ _)
      | (with_reducible exact ih2 _ _ _ _ _ _ _)
      | (with_reducible exact remontoirlaw13_knows.mono _)
      | (with_reducible exact table_At.mono _ _ _ _)
      | (with_reducible exact table_Of.mono _ _)
      | (with_reducible exact LeO.refl _)
      | (with_reducible exact LeO.none _)
      | (with_reducible refine LeO.ite ?_ ?_)
      | (with_reducible refine LeO.bind ?_ (fun _ => ?_))
      | exact ih0 _ _ _
      | exact ih1 _ _ _ _ _ _ _
      | exact ih2 _ _ _ _ _ _ _
      | exact remontoirlaw13_knows.mono _
      | exact table_At.mono _ _ _ _
      | exact table_Of.mono _ _
      | exact LeO.none _
      | refine LeO.ite ?_ ?_
      | refine LeO.bind ?_ (fun _ => ?_)
    · intro y0 y1 y2 y3 y4 y5 y6
      unfold remontoirlaw13_TableWindows.l1
      repeat' first
      | (with_reducible exact ih0 _ _ _)
      | (with_reducible exact ih1 _ _ _ _ _ _ _)
      | (with_reducible exact ih2 _ _ _ _ _ _ _)
      | (with_reducible exact remontoirlaw13_knows.mono _)
      | (with_reducible exact table_At.mono _ _ _ _)
      | (with_reducible exact table_Of.mono _ _)
      | (with_reducible exact LeO.refl _)
      | (with_reducible exact LeO.none _)
      | (with_reducible refine LeO.ite ?_ ?_)
      | (with_reducible refine LeO.bind ?_ (fun _ => ?_))
      | exact ih0 _ _ _
      | exact ih1 _ _ _ _ _ _ _
      | exact ih2 _ _ _ _ _ _ _
      | exact remontoirlaw13_knows.mono _
      | exact table_At.mono _ _ _ _
      | exact table_Of.mono _ _
      | exact LeO.none _
      | refine LeO.ite ?_ ?_
      | refine LeO.bind ?_ (fun _ => ?_)
theorem remontoirlaw13_TableWindows.mono : ∀ a0 a1 k, LeO (remontoirlaw13_TableWindows.f k a0 a1) (remontoirlaw13_TableWindows.f (k + 1) a0 a1) := by
  intro a0 a1 k
  obtain ⟨ih0, ih1, ih2⟩ := remontoirlaw13_TableWindows.mono_l k
  unfold remontoirlaw13_TableWindows.f
  repeat' first
      | (with_reducible exact ih0 _ _ _)
      | (with_reducible exact ih1 _ _ _ _ _ _ _)
      | (with_reducible exact ih2 _ _ _ _ _ _ _)
      | (with_reducible exact remontoirlaw13_knows.mono _)
      | (with_reducible exact table_At.mono _ _ _ _)
      | (with_reducible exact table_Of.mono _ _)
      | (with_reducible exact LeO.refl _)
      | (with_reducible exact LeO.none _)
      | (with_reducible refine LeO.ite ?_ ?_)
      | (with_reducible refine LeO.bind ?_ (fun _ => ?_))
      | exact ih0 _ _ _
      | exact ih1 _ _ _ _ _ _ _
      | exact ih2 _ _ _ _ _ _ _
      | exact remontoirlaw13_knows.mono _
      | exact table_At.mono _ _ _ _
      | exact table_Of.mono _ _
      | exact LeO.none _
      | refine LeO.ite ?_ ?_
      | refine LeO.bind ?_ (fun _ => ?_)
def remontoirlaw13_TableWindows.T16 : Bool × List (List Nat × List Nat) := (true, [([], []), ([], []), ([0, 1], [0, 1]), ([2], [2]), ([3], [3]), ([4, 3], [3, 4]), ([3], [3]), ([6, 3], [3, 6]), ([5, 7, 3], [3, 5, 7]), ([3, 8], [3, 8]), ([9, 3], [9]), ([10], [10]), ([10], [10]), ([11, 12, 10, 10], [10, 11, 12]), ([10], [10]), ([10], [10]), ([10], [10]), ([16, 10], [10, 16]), ([15, 17, 10], [10, 15, 17]), ([14, 18, 10], [10, 14, 18]), ([19, 10], [10, 19]), ([13, 20, 10], [10, 13, 20]), ([10, 21], [10, 21]), ([22, 13], [22]), ([23], [23]), ([23], [23]), ([23], [23]), ([26, 23], [23, 26]), ([25, 27, 23], [23, 25, 27]), ([24, 28, 23, 23], [23, 24, 28]), ([23], [23]), ([23], [23]), ([30, 31, 29, 23], [23, 30, 31]), ([29, 32, 23], [23, 29, 32]), ([23, 33], [23, 33]), ([34, 32], [34]), ([35, 35], [35]), ([35, 36], [35, 36]), ([37, 36, 0, 1, 2, 3, 4, 5, 6, 7, 8, 9, 10, 11, 12, 13, 14, 15, 16, 17, 18, 19, 20, 21, 22, 23, 24, 25, 26, 27, 28, 29, 30, 31, 32, 33, 34, 35, 36, 37], [37])])
def remontoirlaw13_TableWindows.B16 : List Nat := [0, 0, 3, 7, 15, 31, 15, 79, 255, 511, 1023, 2047, 2047, 8191, 2047, 2047, 2047, 67583, 231423, 509951, 1034239, 2097151, 4194303, 8388607, 16777215, 16777215, 16777215, 83886079, 251658239, 536870911, 16777215, 16777215, 4294967295, 8589934591, 17179869183, 34359738367, 68719476735, 137438953471, 274877906943]
theorem remontoirlaw13_TableWindows.tab16 : rtab .any (opsOf Try.f6 16) = remontoirlaw13_TableWindows.T16 := by kernel_rfl
theorem remontoirlaw13_TableWindows.bits16 : waitsOk remontoirlaw13_TableWindows.T16.2 remontoirlaw13_TableWindows.B16 = true := by kernel_rfl
set_option maxHeartbeats 8000000 in
set_option maxRecDepth 100000 in
theorem remontoirlaw13_TableWindows.calls (k : Nat) (A0 : Option Addr) (c0 : Nat) (l0 : List Int) (a1 : Int) (w : World) (hr0 : Kd.C (Kd.int .i64) w A0 l0.length l0) (hc0 : l0.length ≤ c0) (h : remontoirlaw13_TableWindows.f k l0 a1 = some true) :
    Calls Try.prog 6 #[.slice A0 l0.length c0, .int .i64 a1] w fun e w' => e = .returned (.bool true) ∧ Below w.heap.size w w' := by
  have hu24 := Try.underlying24
  have HR0 := Aside0.mk hr0
  have HC0 := Aside0.mk hc0
  clear hr0 hc0
  have HB := Aside0.mk (Below.refl w.heap.size w)
  have H : (if (l0.length : Int) > 300 then (remontoirlaw13_TableWindows.j0 k l0 a1 true) else (if a1 < 0 then (remontoirlaw13_TableWindows.j0 k l0 a1 true) else (remontoirlaw13_TableWindows.j0 k l0 a1 (decide (a1 > 10000))))) = some true := h
  clear h
  have HC3 := Aside0.mk H
  clear H
  go_enter Try.func6, Try.ntmps6
  go_upto_region 1 with (fail)
  go_cut [21] (fun v21 wc => ∃ (kq : Nat) (x21_2 : Bool), v21 = .bool x21_2 ∧ Aside0 (remontoirlaw13_TableWindows.j0 kq l0 a1 x21_2 = some true) ∧ Aside0 (kq ≤ k) ∧ Aside0 (Below w.heap.size w wc))
  case first =>
    have H := HC3.out
    clear HC3
    by_cases c4 : (l0.length : Int) > 300
    · rw [if_pos c4] at H
      have c4b0 : decide (300 < (l0.length : Int)) = true := decide_eq_true c4
      have c4b1 : decide (300 < l0.length) = true := decide_eq_true (by omega)
      clear c4
      (first | rw [c4b0] | (simp only [i64_w, i32_w]; rw [c4b0]) | rw [c4b1] | (simp only [i64_w, i32_w]; rw [c4b1]) | skip)
      have H' := Aside0.mk H
      clear H
      go_wp2
      go_meet
      case rel => exact ⟨_, (true), (by first | rfl | (simp; done) | (simp [*]; done)), H', ⟨by first | omega | exact Nat.le_refl _⟩, ⟨by repeat (first | (with_reducible first | exact HB.out | apply below_alloc | apply pw_below_drewN | apply below_drew1) | exact HB.out)⟩⟩
    · rw [if_neg c4] at H
      have c4b0 : decide (300 < (l0.length : Int)) = false := decide_eq_false c4
      have c4b1 : decide (300 < l0.length) = false := decide_eq_false (by omega)
      clear c4
      (first | rw [c4b0] | (simp only [i64_w, i32_w]; rw [c4b0]) | rw [c4b1] | (simp only [i64_w, i32_w]; rw [c4b1]) | skip)
      by_cases c5 : a1 < 0
      · rw [if_pos c5] at H
        have c5b0 : decide (a1 < 0) = true := decide_eq_true c5
        clear c5
        have H' := Aside0.mk H
        clear H
        go_wp2
        go_meet
        case rel => exact ⟨_, (true), (by first | rfl | (simp; done) | (simp [*]; done)), H', ⟨by first | omega | exact Nat.le_refl _⟩, ⟨by repeat (first | (with_reducible first | exact HB.out | apply below_alloc | apply pw_below_drewN | apply below_drew1) | exact HB.out)⟩⟩
      · rw [if_neg c5] at H
        have c5b0 : decide (a1 < 0) = false := decide_eq_false c5
        clear c5
        have H' := Aside0.mk H
        clear H
        go_wp2
        go_meet
        case rel => exact ⟨_, (decide (a1 > 10000)), (by first | rfl | (simp; done) | (simp [*]; done)), H', ⟨by first | omega | exact Nat.le_refl _⟩, ⟨by repeat (first | (with_reducible first | exact HB.out | apply below_alloc | apply pw_below_drewN | apply below_drew1) | exact HB.out)⟩⟩
  case rest =>
    clear HC3
    try clear p2
    try clear c4
    try clear c4b0
    try clear c4b1
    try clear c5
    try clear c5b0
    obtain ⟨kq, x21_2, rfl, HA, HJ2, HB⟩ := hcut
    cases kq with
    | zero => exact absurd HA.out (by simp [remontoirlaw13_TableWindows.j0])
    | succ kj2 =>
      have H := HA.out
      clear HA
      simp only [remontoirlaw13_TableWindows.j0] at H
      by_cases c6 : x21_2 = true
      · subst c6
        have H1 : ((remontoirlaw13_knows.f kj2).bind fun t216 => (some t216)) = some true := by rw [if_pos rfl] at H; exact H
        clear H
        have H := H1
        clear H1
        replace H := Option.bind_eq_some_iff.mp H
        obtain ⟨t216, A70, H⟩ := H
        replace H : (some t216) = some true := H
        have A7 := Aside0.mk A70
        clear A70
        have HR_ := Aside0.mk (Option.some.inj H)
        clear H
        go_wp2_with (first | ((with_reducible refine gate_callee (f := 13) rfl ?_); refine goesL_ (some 22) rfl rfl Try.func13 (by kernel_rfl) rfl #[] rfl (by (try simp only [List.map_toArray, List.map_cons, List.map_nil]); first | done | rfl | (simp only [List.length_drop, List.length_take]; rfl)) ?_; (with_reducible refine (remontoirlaw13_knows.calls kj2  t216 _ A7.out).mono ?_); rintro e w8 ⟨rfl, hb⟩; refine ⟨_, rfl, ?_⟩; have n0_ := Aside0.mk (below_step (by repeat (first | (with_reducible first | exact HB.out | apply below_alloc | apply pw_below_drewN | apply below_drew1) | exact HB.out)) hb); clear HB; have HB := n0_; clear n0_; (try clear hb); (try clear hb2); (try clear hk); (try clear hi)))
        go_ret
        exact ⟨by first | rfl | (rw [HR_.out] <;> rfl) | (simp [errW_none, errW_some] <;> rfl) | (simp [*, errW_none, errW_some] <;> rfl), by repeat (first | (with_reducible first | exact HB.out | apply below_alloc | apply pw_below_drewN | apply below_drew1) | exact HB.out)⟩
      · replace c6 := Bool.eq_false_iff.mpr c6
        subst c6
        have H1 : ((table_Of.f kj2 l0).bind fun bt217 => (if bt217.2.2 = 0 then (remontoirlaw13_TableWindows.l0 kj2 l0 a1 0 0 0 bt217.1 bt217.2.1) else (if (bt217.2.1.length : Int) = 0 then ((remontoirlaw13_knows.f kj2).bind fun t223 => (some t223)) else (some false)))) = some true := by rw [if_neg (show ¬ (false = true) by decide)] at H; exact H
        clear H
        have H := H1
        clear H1
        replace H := Option.bind_eq_some_iff.mp H
        obtain ⟨⟨t217, t218, t221⟩, A90, H⟩ := H
        replace H : (if t221 = 0 then (remontoirlaw13_TableWindows.l0 kj2 l0 a1 0 0 0 t217 t218) else (if (t218.length : Int) = 0 then ((remontoirlaw13_knows.f kj2).bind fun t223 => (some t223)) else (some false))) = some true := H
        have A9 := Aside0.mk A90
        clear A90
        by_cases c10 : t221 = 0
        · rw [if_pos c10] at H
          have c10b0 : (t221 == 0) = true := beq_iff_eq.mpr c10
          have c10b1 : (t221 != 0) = false := bne_eq_false_iff_eq.mpr c10
          clear c10
          have H' := Aside0.mk H
          clear H
          go_wp2_with (first | ((with_reducible refine gate_callee (f := 21) rfl ?_); refine goesL_ (some 25) rfl rfl Try.func21 (by kernel_rfl) rfl #[.slice A0 l0.length c0] rfl (by (try simp only [List.map_toArray, List.map_cons, List.map_nil]); first | done | rfl | (simp only [List.length_drop, List.length_take]; rfl)) ?_; (with_reducible refine (table_Of.calls kj2 _ _ l0 t217 t218 t221 _ ?side1 ?side2 A9.out).mono ?_); (case side1 => repeat (first | exact (Kd.C_below HR0.out HB.out) | (with_reducible refine Kd.C_alloc ?_ _) | (with_reducible refine Kd.C_drewN ?_ _) | (with_reducible refine Kd.C_drew ?_))); (case side2 => exact HC0.out); rintro e w11 ⟨v219, rfl, ho0, hb⟩; refine ⟨_, rfl, ?_⟩; have n0_ := Aside0.mk (Kd.R_lower ho0 (below_size (by repeat (first | (with_reducible first | exact HB.out | apply below_alloc | apply pw_below_drewN | apply below_drew1) | exact HB.out)))); have n1_ := Aside0.mk (below_step (by repeat (first | (with_reducible first | exact HB.out | apply below_alloc | apply pw_below_drewN | apply below_drew1) | exact HB.out)) hb); clear HB; have HO220 := n0_; have HB := n1_; clear n0_ n1_; (try clear hb); (try clear hb2); (try clear hk); (try clear hi); (try clear ho0)) | ((with_reducible refine gate_dst (N := 5) rfl ?_); (try (refine gate_guard (by rfl) ?_; dsimp only)); refine box_event ?hg (N := 5) ?hd (cs := #[.int .i64 0, .slice none 0 0]) (t := 24) ?hr ?_; (case hd => rfl); (case hg => rfl); (case hr => first | (go_simp; done) | (go_simp; rfl)); intro gb222 hg w12 hbox hb; have n0_ := Aside0.mk (Kd.R_below (by (with_reducible repeat (first | apply Kd.R_alloc | apply Kd.R_drewN | apply Kd.R_drew)); exact HO220.out) hb); have n1_ := Aside0.mk (below_step (by repeat (first | (with_reducible first | exact HB.out | apply below_alloc | apply pw_below_drewN | apply below_drew1) | exact HB.out)) hb); have n2_ := Aside0.mk (hbox); have n3_ := Aside0.mk ((by rw [hg]; exact (below_size (by repeat (first | (with_reducible first | exact HB.out | apply below_alloc | apply pw_below_drewN | apply below_drew1) | exact HB.out))) : w.heap.size ≤ gb222)); have n4_ := Aside0.mk ((by rw [hg]; exact (below_size (by repeat (first | (with_reducible first | exact HB.out | apply below_alloc | apply pw_below_drewN | apply below_drew1) | exact HB.out))) : w.heap.size ≤ gb222)); clear HO220; clear HB; have HO220 := n0_; have HB := n1_; have BK222 := n2_; have GW222 := n3_; have GE222 := n4_; clear n0_ n1_ n2_ n3_ n4_; clear hb hbox hg; have hcz13_0 : w12.cell? ⟨gb222, 0, none⟩ = some (.int .i64 0) := (blk_cell BK222.out 0).trans rfl; have hcz13_1 : w12.cell? ⟨gb222, 1, none⟩ = some (.slice none 0 0) := (blk_cell BK222.out 1).trans rfl; have hfz13_0 := blk_frozen BK222.out 0; have hfz13_1 := blk_frozen BK222.out 1; obtain ⟨Ao14, co14, eo14⟩ := Kd.R_slice HO220.out; subst eo14))
          go_loopg [7, 9] kj2 (fun kq v7 v9 w' => ∃ (x7_2 : Int) (x9_2 : Int), v7 = .int .i64 x7_2 ∧ v9 = .int .i64 x9_2 ∧ Aside0 (remontoirlaw13_TableWindows.l0 kq l0 a1 x7_2 0 x9_2 t217 t218 = some true) ∧ Aside0 (kq ≤ kj2) ∧ Aside0 (Kd.R k46 46 w' w.heap.size (fun _ => True) (.slice Ao14 t218.length co14) t218) ∧ Aside0 (w'.heap[gb222]? = some (.cells #[.int .i64 t217, (.slice Ao14 t218.length co14)] 24 (0, 0))) ∧ Aside0 (Below w.heap.size w w'))
          case atStart => exact ⟨(0), (0), (by first | rfl | (simp; done) | (simp [*]; done)), (by first | rfl | (simp; done) | (simp [*]; done)), H', ⟨Nat.le_refl _⟩, ⟨by (with_reducible repeat (first | apply Kd.R_alloc | apply Kd.R_drewN | apply Kd.R_drew)); exact Kd.R_mono (Kd.R_far (p := ⟨gb222, 1, none⟩) (Kd.R_far (p := ⟨gb222, 0, none⟩) (Kd.R_types HO220.out BK222.out (by decide)) (fun _ hk => hk.2) (.int .i64 t217)) (fun _ hk => hk.2) (.slice Ao14 t218.length co14)) (fun _ hk => trivial)⟩, ⟨by (with_reducible repeat (first | refine blk_drewN ?_ _ | refine blk_drew ?_ | refine blk_alloc ?_ _)); refine blk_put (cs := #[.int .i64 t217, .slice none 0 0]) ?_ 1 _ rfl; (with_reducible repeat (first | refine blk_drewN ?_ _ | refine blk_drew ?_ | refine blk_alloc ?_ _)); refine blk_put (cs := #[.int .i64 0, .slice none 0 0]) ?_ 0 _ rfl; (with_reducible repeat (first | refine blk_drewN ?_ _ | refine blk_drew ?_ | refine blk_alloc ?_ _)); exact BK222.out⟩, ⟨by repeat (first | (with_reducible first | exact HB.out | apply below_alloc | apply pw_below_drewN | apply below_drew1 | refine below_set ?_ GE222.out) | exact HB.out)⟩⟩
          case round =>
            clear H'
            try clear c1
            try clear c2
            try clear p2
            try clear c4
            try clear c4b0
            try clear c4b1
            try clear c5
            try clear c5b0
            try clear c6
            try clear c10
            try clear c10b0
            try clear c10b1
            try clear c13
            try clear hcz13_0
            try clear hcz13_1
            try clear hfz13_0
            try clear hfz13_1
            try clear p2
            obtain ⟨x7_2, x9_2, rfl, rfl, HA, HK2, HO_223001, BK222, HB⟩ := hrel
            cases gk with
            | zero => exact absurd HA.out (by simp [remontoirlaw13_TableWindows.l0])
            | succ k2 =>
              have H := HA.out
              clear HA
              simp only [remontoirlaw13_TableWindows.l0] at H
              by_cases c15 : x9_2 < (t218.length : Int)
              · rw [if_pos c15] at H
                have c15b0 : decide (x9_2 < (t218.length : Int)) = true := decide_eq_true c15
                clear c15
                by_cases c16 : 0 ≤ x9_2
                · rw [if_pos c16] at H
                  have c16b0 : decide (0 ≤ x9_2) = true := decide_eq_true c16
                  clear c16
                  have H' := Aside0.mk H
                  clear H
                  have hcz17_0 : wr.cell? ⟨gb222, 0, none⟩ = some (.int .i64 t217) := (blk_cell BK222.out 0).trans rfl
                  have hcz17_1 : wr.cell? ⟨gb222, 1, none⟩ = some (.slice Ao14 t218.length co14) := (blk_cell BK222.out 1).trans rfl
                  have hfz17_0 := blk_frozen BK222.out 0
                  have hfz17_1 := blk_frozen BK222.out 1
                  have p224 : 0 ≤ (x9_2 : Int) := of_decide_eq_true (by first | (with_reducible assumption) | assumption)
                  have q224 : x9_2 < (t218.length : Int) := of_decide_eq_true (by first | (with_reducible assumption) | assumption)
                  obtain ⟨ad224, e224, hx224_0, hx224_1, hx224_2⟩ := at_T46 (Kd.R_reads' HO_223001.out).2.2 x9_2 p224 q224
                  cases e224
                  replace p224 := eq_true p224
                  replace q224 := eq_true q224
                  go_wp2
                  go_roundg k2
                  case measure => have := HJ2.out; have := HK2.out; omega
                  case rel => exact ⟨(wrap64 (x7_2 + ((rd_T46 t218 x9_2).f2))), (wrap64 (x9_2 + 1)), (by first | rfl | (simp; done) | (simp [*]; done)), (by first | rfl | (simp; done) | (simp [*]; done)), H', ⟨by have := HJ2.out; have := HK2.out; omega⟩, ⟨by (with_reducible repeat (first | apply Kd.R_alloc | apply Kd.R_drewN | apply Kd.R_drew)); exact HO_223001.out⟩, ⟨by (with_reducible repeat (first | refine blk_drewN ?_ _ | refine blk_drew ?_ | refine blk_alloc ?_ _)); exact BK222.out⟩, ⟨by repeat (first | (with_reducible first | exact HB.out | apply below_alloc | apply pw_below_drewN | apply below_drew1 | refine below_set ?_ GE222.out) | exact HB.out)⟩⟩
                · rw [if_neg c16] at H
                  exact absurd H (by simp)
              · rw [if_neg c15] at H
                have c15b0 : decide (x9_2 < (t218.length : Int)) = false := decide_eq_false c15
                clear c15
                have H' := Aside0.mk H
                clear H
                have hcz18_0 : wr.cell? ⟨gb222, 0, none⟩ = some (.int .i64 t217) := (blk_cell BK222.out 0).trans rfl
                have hcz18_1 : wr.cell? ⟨gb222, 1, none⟩ = some (.slice Ao14 t218.length co14) := (blk_cell BK222.out 1).trans rfl
                have hfz18_0 := blk_frozen BK222.out 0
                have hfz18_1 := blk_frozen BK222.out 1
                go_wp2
                go_loopg [8, 10] k2 (fun kq v8 v10 w' => ∃ (x8_3 : Int) (x10_3 : Int), v8 = .int .i64 x8_3 ∧ v10 = .int .i64 x10_3 ∧ Aside0 (remontoirlaw13_TableWindows.l1 kq l0 a1 x7_2 x8_3 x10_3 t217 t218 = some true) ∧ Aside0 (kq ≤ k2) ∧ Aside0 (Kd.R k46 46 w' w.heap.size (fun _ => True) (.slice Ao14 t218.length co14) t218) ∧ Aside0 (w'.heap[gb222]? = some (.cells #[.int .i64 t217, (.slice Ao14 t218.length co14)] 24 (0, 0))) ∧ Aside0 (Below w.heap.size w w'))
                case atStart => exact ⟨(0), (0), (by first | rfl | (simp; done) | (simp [*]; done)), (by first | rfl | (simp; done) | (simp [*]; done)), H', ⟨Nat.le_refl _⟩, ⟨by (with_reducible repeat (first | apply Kd.R_alloc | apply Kd.R_drewN | apply Kd.R_drew)); exact HO_223001.out⟩, ⟨by (with_reducible repeat (first | refine blk_drewN ?_ _ | refine blk_drew ?_ | refine blk_alloc ?_ _)); exact BK222.out⟩, ⟨by repeat (first | (with_reducible first | exact HB.out | apply below_alloc | apply pw_below_drewN | apply below_drew1 | refine below_set ?_ GE222.out) | exact HB.out)⟩⟩
                case round =>
                  clear H'
                  try clear c1
                  try clear c2
                  try clear p2
                  try clear q2
                  try clear hx2
                  try clear c4
                  try clear c4b0
                  try clear c4b1
                  try clear c5
                  try clear c5b0
                  try clear c6
                  try clear p6
                  try clear c10
                  try clear c10b0
                  try clear c10b1
                  try clear c13
                  try clear c15
                  try clear c15b0
                  try clear c16
                  try clear c16b0
                  try clear hcz13_0
                  try clear hcz13_1
                  try clear hcz17_0
                  try clear hcz17_1
                  try clear hcz18_0
                  try clear hcz18_1
                  try clear hfz13_0
                  try clear hfz13_1
                  try clear hfz17_0
                  try clear hfz17_1
                  try clear hfz18_0
                  try clear hfz18_1
                  try clear hx224_0
                  try clear hx224_1
                  try clear hx224_2
                  try clear p2
                  try clear p224
                  try clear q224
                  obtain ⟨x8_3, x10_3, rfl, rfl, HA, HK3, HO_223001, BK222, HB⟩ := hrel
                  cases gk with
                  | zero => exact absurd HA.out (by simp [remontoirlaw13_TableWindows.l1])
                  | succ k3 =>
                    have H := HA.out
                    clear HA
                    simp only [remontoirlaw13_TableWindows.l1] at H
                    by_cases c19 : x10_3 < (l0.length : Int)
                    · rw [if_pos c19] at H
                      have c19b0 : decide (x10_3 < (l0.length : Int)) = true := decide_eq_true c19
                      clear c19
                      by_cases c20 : 0 ≤ x10_3
                      · rw [if_pos c20] at H
                        have c20b0 : decide (0 ≤ x10_3) = true := decide_eq_true c20
                        clear c20
                        by_cases c21 : (rd l0 x10_3) ≥ 0
                        · rw [if_pos c21] at H
                          have c21b0 : decide (0 ≤ (rd l0 x10_3)) = true := decide_eq_true c21
                          clear c21
                          have H' := Aside0.mk H
                          clear H
                          have p225 : 0 ≤ (x10_3 : Int) := of_decide_eq_true (by first | (with_reducible assumption) | assumption)
                          have q225 : x10_3 < (l0.length : Int) := of_decide_eq_true (by first | (with_reducible assumption) | assumption)
                          obtain ⟨ad225, e225, hx225_0⟩ := Kd.at_int HR0.out x10_3 p225 q225
                          cases e225
                          replace hx225_0 := (HB.out.cell (World.block_lt_of_cell? w _ hx225_0)).trans hx225_0
                          replace p225 := eq_true p225
                          replace q225 := eq_true q225
                          go_wp2
                          go_roundg k3
                          case measure => have := HJ2.out; have := HK2.out; have := HK3.out; omega
                          case rel => exact ⟨(wrap64 (x8_3 + 1)), (wrap64 (x10_3 + 1)), (by first | rfl | (simp; done) | (simp [*]; done)), (by first | rfl | (simp; done) | (simp [*]; done)), H', ⟨by have := HJ2.out; have := HK2.out; have := HK3.out; omega⟩, ⟨by (with_reducible repeat (first | apply Kd.R_alloc | apply Kd.R_drewN | apply Kd.R_drew)); exact HO_223001.out⟩, ⟨by (with_reducible repeat (first | refine blk_drewN ?_ _ | refine blk_drew ?_ | refine blk_alloc ?_ _)); exact BK222.out⟩, ⟨by repeat (first | (with_reducible first | exact HB.out | apply below_alloc | apply pw_below_drewN | apply below_drew1 | refine below_set ?_ GE222.out) | exact HB.out)⟩⟩
                        · rw [if_neg c21] at H
                          have c21b0 : decide (0 ≤ (rd l0 x10_3)) = false := decide_eq_false c21
                          clear c21
                          have H' := Aside0.mk H
                          clear H
                          have p225 : 0 ≤ (x10_3 : Int) := of_decide_eq_true (by first | (with_reducible assumption) | assumption)
                          have q225 : x10_3 < (l0.length : Int) := of_decide_eq_true (by first | (with_reducible assumption) | assumption)
                          obtain ⟨ad225, e225, hx225_0⟩ := Kd.at_int HR0.out x10_3 p225 q225
                          cases e225
                          replace hx225_0 := (HB.out.cell (World.block_lt_of_cell? w _ hx225_0)).trans hx225_0
                          replace p225 := eq_true p225
                          replace q225 := eq_true q225
                          go_wp2
                          go_roundg k3
                          case measure => have := HJ2.out; have := HK2.out; have := HK3.out; omega
                          case rel => exact ⟨(x8_3), (wrap64 (x10_3 + 1)), (by first | rfl | (simp; done) | (simp [*]; done)), (by first | rfl | (simp; done) | (simp [*]; done)), H', ⟨by have := HJ2.out; have := HK2.out; have := HK3.out; omega⟩, ⟨by (with_reducible repeat (first | apply Kd.R_alloc | apply Kd.R_drewN | apply Kd.R_drew)); exact HO_223001.out⟩, ⟨by (with_reducible repeat (first | refine blk_drewN ?_ _ | refine blk_drew ?_ | refine blk_alloc ?_ _)); exact BK222.out⟩, ⟨by repeat (first | (with_reducible first | exact HB.out | apply below_alloc | apply pw_below_drewN | apply below_drew1 | refine below_set ?_ GE222.out) | exact HB.out)⟩⟩
                      · rw [if_neg c20] at H
                        exact absurd H (by simp)
                    · rw [if_neg c19] at H
                      have c19b0 : decide (x10_3 < (l0.length : Int)) = false := decide_eq_false c19
                      clear c19
                      by_cases c22 : x7_2 = x8_3
                      · rw [if_pos c22] at H
                        have c22b0 : (x7_2 == x8_3) = true := beq_iff_eq.mpr c22
                        have c22b1 : (x7_2 != x8_3) = false := bne_eq_false_iff_eq.mpr c22
                        clear c22
                        by_cases c23 : t217 = (l0.length : Int)
                        · rw [if_pos c23] at H
                          have c23b0 : (t217 == (l0.length : Int)) = true := beq_iff_eq.mpr c23
                          have c23b1 : (t217 != (l0.length : Int)) = false := bne_eq_false_iff_eq.mpr c23
                          clear c23
                          replace H := Option.bind_eq_some_iff.mp H
                          obtain ⟨t226, A240, H⟩ := H
                          replace H : (if (l0.length : Int) = 0 then (none) else (if 0 ≤ (Int.tmod a1 (l0.length : Int)) then (if (Int.tmod a1 (l0.length : Int)) < (l0.length : Int) then (if t226 = (rd l0 (Int.tmod a1 (l0.length : Int))) then ((table_At.f k3 t217 t218 (wrap64 (a1 + t217))).bind fun t228 => ((table_At.f k3 t217 t218 a1).bind fun t229 => (if t228 = t229 then ((remontoirlaw13_knows.f k3).bind fun t230 => (some t230)) else (some false)))) else (some false)) else (none)) else (none))) = some true := H
                          have A24 := Aside0.mk A240
                          clear A240
                          by_cases c25 : (l0.length : Int) = 0
                          · rw [if_pos c25] at H
                            exact absurd H (by simp)
                          · rw [if_neg c25] at H
                            have c25b0 : ((l0.length : Int) == 0) = false := beq_eq_false_iff_ne.mpr c25
                            have c25b1 : ((l0.length : Int) != 0) = true := bne_iff_ne.mpr c25
                            have c25b2 : ¬ (l0 = []) := fun h_ => c25 (by rw [h_]; rfl)
                            obtain ⟨ji26, hji26⟩ : ∃ j_ : Int, (Int.tmod a1 (l0.length : Int)) = j_ := ⟨_, rfl⟩
                            replace H : (if 0 ≤ (ji26) then (if (ji26) < (l0.length : Int) then (if t226 = (rd l0 (ji26)) then ((table_At.f k3 t217 t218 (wrap64 (a1 + t217))).bind fun t228 => ((table_At.f k3 t217 t218 a1).bind fun t229 => (if t228 = t229 then ((remontoirlaw13_knows.f k3).bind fun t230 => (some t230)) else (some false)))) else (some false)) else (none)) else (none)) = some true := by first | (rw [hji26] at H; exact H) | (simp only [hji26] at H ⊢; exact H)
                            (try rw [hji26] at A24)
                            by_cases c27 : 0 ≤ (ji26)
                            · rw [if_pos c27] at H
                              have c27b0 : decide (0 ≤ (ji26)) = true := decide_eq_true c27
                              clear c27
                              by_cases c28 : (ji26) < (l0.length : Int)
                              · rw [if_pos c28] at H
                                have c28b0 : decide ((ji26) < (l0.length : Int)) = true := decide_eq_true c28
                                clear c28
                                by_cases c29 : t226 = (rd l0 (ji26))
                                · rw [if_pos c29] at H
                                  have c29b0 : (t226 == (rd l0 (ji26))) = true := beq_iff_eq.mpr c29
                                  have c29b1 : (t226 != (rd l0 (ji26))) = false := bne_eq_false_iff_eq.mpr c29
                                  clear c29
                                  replace H := Option.bind_eq_some_iff.mp H
                                  obtain ⟨t228, A300, H⟩ := H
                                  replace H : ((table_At.f k3 t217 t218 a1).bind fun t229 => (if t228 = t229 then ((remontoirlaw13_knows.f k3).bind fun t230 => (some t230)) else (some false))) = some true := H
                                  have A30 := Aside0.mk A300
                                  clear A300
                                  replace H := Option.bind_eq_some_iff.mp H
                                  obtain ⟨t229, A310, H⟩ := H
                                  replace H : (if t228 = t229 then ((remontoirlaw13_knows.f k3).bind fun t230 => (some t230)) else (some false)) = some true := H
                                  have A31 := Aside0.mk A310
                                  clear A310
                                  by_cases c32 : t228 = t229
                                  · rw [if_pos c32] at H
                                    have c32b0 : (t228 == t229) = true := beq_iff_eq.mpr c32
                                    have c32b1 : (t228 != t229) = false := bne_eq_false_iff_eq.mpr c32
                                    clear c32
                                    replace H := Option.bind_eq_some_iff.mp H
                                    obtain ⟨t230, A330, H⟩ := H
                                    replace H : (some t230) = some true := H
                                    have A33 := Aside0.mk A330
                                    clear A330
                                    have HR_ := Aside0.mk (Option.some.inj H)
                                    clear H
                                    try go_wp2
                                    have n0_ := Aside0.mk (Kd.R_drew HO_223001.out)
                                    have n1_ := Aside0.mk (blk_drew BK222.out)
                                    have n2_ := Aside0.mk (below_drew1 HB.out)
                                    clear HO_223001
                                    clear BK222
                                    clear HB
                                    have HO_223001 := n0_
                                    have BK222 := n1_
                                    have HB := n2_
                                    clear n0_ n1_ n2_
                                    have p227 : 0 ≤ ((ji26) : Int) := of_decide_eq_true (by first | (with_reducible assumption) | assumption)
                                    have q227 : (ji26) < (l0.length : Int) := of_decide_eq_true (by first | (with_reducible assumption) | assumption)
                                    obtain ⟨ad227, e227, hx227_0⟩ := Kd.at_int HR0.out (ji26) p227 q227
                                    have hw227_0 := hx227_0
                                    cases e227
                                    replace hx227_0 := (HB.out.cell (World.block_lt_of_cell? w _ hx227_0)).trans hx227_0
                                    replace p227 := eq_true p227
                                    replace q227 := eq_true q227
                                    refine start_ (n := 39) (S := fun w' => w'.cell? ⟨gb222, 0, none⟩ = some (.int .i64 t217) ∧ w'.cell? ⟨gb222, 1, none⟩ = some (.slice Ao14 t218.length co14) ∧ w'.cell? (ad227.add ((ji26)).toNat) = some (.int .i64 (rd l0 (ji26)))) (ds := []) #[false, false, false, false, false, false, false, false, false, false, false, false, false, false, false, false, false, false, false, false, false, false, false, false, false, false, false, false, false, false, false, false, false, false, false, false, false, false, false] (by kernel_rfl) rfl rfl ⟨(blk_cell BK222.out 0).trans rfl, (blk_cell BK222.out 1).trans rfl, ((HB.out.cell (World.block_lt_of_cell? w _ hw227_0)).trans hw227_0)⟩ (fun hHeld => ?_); refine with_tabW remontoirlaw13_TableWindows.tab16 remontoirlaw13_TableWindows.bits16 (fun HT_ HW_ => ?_)
                                    generalize wr.drew = w34 at HO_223001 BK222 HB hx227_0 hHeld ⊢
                                    refine pure_ (i := 0) (N := some 65) (v := ?_) (a' := ?_) #[true, false, false, false, false, false, false, false, false, false, false, false, false, false, false, false, false, false, false, false, false, false, false, false, false, false, false, false, false, false, false, false, false, false, false, false, false, false, false] rfl rfl (any_of HT_.out (by kernel_rfl)) (fun _ _ _ h => h) (Or.inl ⟨by rfl, ?_⟩) ?_ ?_
                                    rotate_left
                                    · intro w'
                                      go_simp
                                      with_reducible rfl
                                    rotate_left
                                    · simp only [Act.put, List.setIfInBounds_toArray, List.set_cons_zero, List.set_cons_succ, i64_w, i32_w]
                                      rfl
                                    refine pure_ (i := 1) (N := some 66) (v := ?_) (a' := ?_) #[true, true, false, false, false, false, false, false, false, false, false, false, false, false, false, false, false, false, false, false, false, false, false, false, false, false, false, false, false, false, false, false, false, false, false, false, false, false, false] rfl rfl (any_of HT_.out (by kernel_rfl)) (fun _ _ _ h => h) (Or.inl ⟨by rfl, ?_⟩) ?_ ?_
                                    rotate_left
                                    · intro w'
                                      go_simp
                                      with_reducible rfl
                                    rotate_left
                                    · simp only [Act.put, List.setIfInBounds_toArray, List.set_cons_zero, List.set_cons_succ, i64_w, i32_w]
                                      rfl
                                    refine pure_ (i := 2) (N := some 67) (v := ?_) (a' := ?_) #[true, true, true, false, false, false, false, false, false, false, false, false, false, false, false, false, false, false, false, false, false, false, false, false, false, false, false, false, false, false, false, false, false, false, false, false, false, false, false] rfl rfl (any_of HT_.out (by kernel_rfl)) (fun _ _ _ h => h) (Or.inl ⟨by rfl, ?_⟩) ?_ ?_
                                    rotate_left
                                    · intro w'
                                      go_simp
                                      with_reducible rfl
                                    rotate_left
                                    · simp only [Act.put, List.setIfInBounds_toArray, List.set_cons_zero, List.set_cons_succ, i64_w, i32_w]
                                      rfl
                                    refine pure_ (i := 3) (N := some 68) (v := ?_) (a' := ?_) #[true, true, true, true, false, false, false, false, false, false, false, false, false, false, false, false, false, false, false, false, false, false, false, false, false, false, false, false, false, false, false, false, false, false, false, false, false, false, false] rfl rfl (any_of HT_.out (by kernel_rfl)) (fun _ _ _ h => h) (Or.inl ⟨by rfl, ?_⟩) ?_ ?_
                                    rotate_left
                                    · intro w'
                                      go_simp
                                      with_reducible rfl
                                    rotate_left
                                    · simp only [Act.put, List.setIfInBounds_toArray, List.set_cons_zero, List.set_cons_succ, i64_w, i32_w]
                                      rfl
                                    refine pure_ (i := 4) (N := some 69) (v := ?_) (a' := ?_) #[true, true, true, true, true, false, false, false, false, false, false, false, false, false, false, false, false, false, false, false, false, false, false, false, false, false, false, false, false, false, false, false, false, false, false, false, false, false, false] rfl rfl (any_of HT_.out (by kernel_rfl)) (fun _ _ _ h => h) (Or.inl ⟨by rfl, ?_⟩) ?_ ?_
                                    rotate_left
                                    · intro w'
                                      go_simp
                                      with_reducible rfl
                                    rotate_left
                                    · simp only [Act.put, List.setIfInBounds_toArray, List.set_cons_zero, List.set_cons_succ, i64_w, i32_w]
                                      rfl
                                    refine pure_ (i := 6) (N := some 71) (v := ?_) (a' := ?_) #[true, true, true, true, true, false, true, false, false, false, false, false, false, false, false, false, false, false, false, false, false, false, false, false, false, false, false, false, false, false, false, false, false, false, false, false, false, false, false] rfl rfl (any_of HT_.out (by kernel_rfl)) (fun _ _ _ h => h) (Or.inl ⟨by rfl, ?_⟩) ?_ ?_
                                    rotate_left
                                    · intro w'
                                      go_simp
                                      with_reducible rfl
                                    rotate_left
                                    · simp only [Act.put, List.setIfInBounds_toArray, List.set_cons_zero, List.set_cons_succ, i64_w, i32_w]
                                      rfl
                                    refine pure_ (i := 7) (N := some 72) (v := ?_) (a' := ?_) #[true, true, true, true, true, false, true, true, false, false, false, false, false, false, false, false, false, false, false, false, false, false, false, false, false, false, false, false, false, false, false, false, false, false, false, false, false, false, false] rfl rfl (any_of HT_.out (by kernel_rfl)) (fun _ _ _ h => h) (Or.inl ⟨by rfl, ?_⟩) ?_ ?_
                                    rotate_left
                                    · intro w'
                                      go_simp
                                      with_reducible rfl
                                    rotate_left
                                    · simp only [Act.put, List.setIfInBounds_toArray, List.set_cons_zero, List.set_cons_succ, i64_w, i32_w]
                                      rfl
                                    refine take_ (i := 5) (N := some 70) (v := ?_) (a' := ?_) #[true, true, true, true, true, true, true, true, false, false, false, false, false, false, false, false, false, false, false, false, false, false, false, false, false, false, false, false, false, false, false, false, false, false, false, false, false, false, false] rfl rfl (take_ofW HT_.out HW_.out (by kernel_rfl)) (fun _ _ _ h => h) (Or.inl ⟨by rfl, ?_⟩) hHeld ?_ ?_
                                    rotate_left
                                    · rintro w' ⟨s0, s1, s2⟩
                                      go_simp
                                      with_reducible rfl
                                    rotate_left
                                    · simp only [Act.put, List.setIfInBounds_toArray, List.set_cons_zero, List.set_cons_succ, i64_w, i32_w]
                                      rfl
                                    refine pure_ (i := 8) (N := some 73) (v := ?_) (a' := ?_) #[true, true, true, true, true, true, true, true, true, false, false, false, false, false, false, false, false, false, false, false, false, false, false, false, false, false, false, false, false, false, false, false, false, false, false, false, false, false, false] rfl rfl (any_of HT_.out (by kernel_rfl)) (fun _ _ _ h => h) (Or.inl ⟨by rfl, ?_⟩) ?_ ?_
                                    rotate_left
                                    · intro w'
                                      go_simp
                                      with_reducible rfl
                                    rotate_left
                                    · simp only [Act.put, List.setIfInBounds_toArray, List.set_cons_zero, List.set_cons_succ, i64_w, i32_w]
                                      rfl
                                    refine pure_ (i := 9) (N := some 74) (v := ?_) (a' := ?_) #[true, true, true, true, true, true, true, true, true, true, false, false, false, false, false, false, false, false, false, false, false, false, false, false, false, false, false, false, false, false, false, false, false, false, false, false, false, false, false] rfl rfl (any_of HT_.out (by kernel_rfl)) (fun _ _ _ h => h) (Or.inl ⟨by rfl, ?_⟩) ?_ ?_
                                    rotate_left
                                    · intro w'
                                      go_simp
                                      with_reducible rfl
                                    rotate_left
                                    · simp only [Act.put, List.setIfInBounds_toArray, List.set_cons_zero, List.set_cons_succ, i64_w, i32_w]
                                      rfl
                                    refine pure_ (i := 10) (N := some 75) (v := ?_) (a' := ?_) #[true, true, true, true, true, true, true, true, true, true, true, false, false, false, false, false, false, false, false, false, false, false, false, false, false, false, false, false, false, false, false, false, false, false, false, false, false, false, false] rfl rfl (any_of HT_.out (by kernel_rfl)) (fun _ _ _ h => h) (Or.inl ⟨by rfl, ?_⟩) ?_ ?_
                                    rotate_left
                                    · intro w'
                                      go_simp
                                      with_reducible rfl
                                    rotate_left
                                    · simp only [Act.put, List.setIfInBounds_toArray, List.set_cons_zero, List.set_cons_succ, i64_w, i32_w]
                                      rfl
                                    refine pure_ (i := 12) (N := some 77) (v := ?_) (a' := ?_) #[true, true, true, true, true, true, true, true, true, true, true, false, true, false, false, false, false, false, false, false, false, false, false, false, false, false, false, false, false, false, false, false, false, false, false, false, false, false, false] rfl rfl (any_of HT_.out (by kernel_rfl)) (fun _ _ _ h => h) (Or.inl ⟨by rfl, ?_⟩) ?_ ?_
                                    rotate_left
                                    · intro w'
                                      go_simp
                                      with_reducible rfl
                                    rotate_left
                                    · simp only [Act.put, List.setIfInBounds_toArray, List.set_cons_zero, List.set_cons_succ, i64_w, i32_w]
                                      rfl
                                    refine pure_ (i := 14) (N := some 79) (v := ?_) (a' := ?_) #[true, true, true, true, true, true, true, true, true, true, true, false, true, false, true, false, false, false, false, false, false, false, false, false, false, false, false, false, false, false, false, false, false, false, false, false, false, false, false] rfl rfl (any_of HT_.out (by kernel_rfl)) (fun _ _ _ h => h) (Or.inl ⟨by rfl, ?_⟩) ?_ ?_
                                    rotate_left
                                    · intro w'
                                      go_simp
                                      with_reducible rfl
                                    rotate_left
                                    · simp only [Act.put, List.setIfInBounds_toArray, List.set_cons_zero, List.set_cons_succ, i64_w, i32_w]
                                      rfl
                                    refine pure_ (i := 15) (N := some 80) (v := ?_) (a' := ?_) #[true, true, true, true, true, true, true, true, true, true, true, false, true, false, true, true, false, false, false, false, false, false, false, false, false, false, false, false, false, false, false, false, false, false, false, false, false, false, false] rfl rfl (any_of HT_.out (by kernel_rfl)) (fun _ _ _ h => h) (Or.inl ⟨by rfl, ?_⟩) ?_ ?_
                                    rotate_left
                                    · intro w'
                                      go_simp
                                      with_reducible rfl
                                    rotate_left
                                    · simp only [Act.put, List.setIfInBounds_toArray, List.set_cons_zero, List.set_cons_succ, i64_w, i32_w]
                                      rfl
                                    refine pure_ (i := 16) (N := some 81) (v := ?_) (a' := ?_) #[true, true, true, true, true, true, true, true, true, true, true, false, true, false, true, true, true, false, false, false, false, false, false, false, false, false, false, false, false, false, false, false, false, false, false, false, false, false, false] rfl rfl (any_of HT_.out (by kernel_rfl)) (fun _ _ _ h => h) (Or.inl ⟨by rfl, ?_⟩) ?_ ?_
                                    rotate_left
                                    · intro w'
                                      go_simp
                                      with_reducible rfl
                                    rotate_left
                                    · simp only [Act.put, List.setIfInBounds_toArray, List.set_cons_zero, List.set_cons_succ, i64_w, i32_w]
                                      rfl
                                    refine pure_ (i := 17) (N := some 82) (v := ?_) (a' := ?_) #[true, true, true, true, true, true, true, true, true, true, true, false, true, false, true, true, true, true, false, false, false, false, false, false, false, false, false, false, false, false, false, false, false, false, false, false, false, false, false] rfl rfl (any_of HT_.out (by kernel_rfl)) (fun _ _ _ h => h) (Or.inl ⟨by rfl, ?_⟩) ?_ ?_
                                    rotate_left
                                    · intro w'
                                      go_simp
                                      with_reducible rfl
                                    rotate_left
                                    · simp only [Act.put, List.setIfInBounds_toArray, List.set_cons_zero, List.set_cons_succ, i64_w, i32_w]
                                      rfl
                                    refine pure_ (i := 18) (N := some 83) (v := ?_) (a' := ?_) #[true, true, true, true, true, true, true, true, true, true, true, false, true, false, true, true, true, true, true, false, false, false, false, false, false, false, false, false, false, false, false, false, false, false, false, false, false, false, false] rfl rfl (any_of HT_.out (by kernel_rfl)) (fun _ _ _ h => h) (Or.inl ⟨by rfl, ?_⟩) ?_ ?_
                                    rotate_left
                                    · intro w'
                                      go_simp
                                      with_reducible rfl
                                    rotate_left
                                    · simp only [Act.put, List.setIfInBounds_toArray, List.set_cons_zero, List.set_cons_succ, i64_w, i32_w]
                                      rfl
                                    refine pure_ (i := 19) (N := some 84) (v := ?_) (a' := ?_) #[true, true, true, true, true, true, true, true, true, true, true, false, true, false, true, true, true, true, true, true, false, false, false, false, false, false, false, false, false, false, false, false, false, false, false, false, false, false, false] rfl rfl (any_of HT_.out (by kernel_rfl)) (fun _ _ _ h => h) (Or.inl ⟨by rfl, ?_⟩) ?_ ?_
                                    rotate_left
                                    · intro w'
                                      go_simp
                                      with_reducible rfl
                                    rotate_left
                                    · simp only [Act.put, List.setIfInBounds_toArray, List.set_cons_zero, List.set_cons_succ, i64_w, i32_w]
                                      rfl
                                    refine take_ (i := 11) (N := some 76) (v := ?_) (a' := ?_) #[true, true, true, true, true, true, true, true, true, true, true, true, true, false, true, true, true, true, true, true, false, false, false, false, false, false, false, false, false, false, false, false, false, false, false, false, false, false, false] rfl rfl (take_ofW HT_.out HW_.out (by kernel_rfl)) (fun _ _ _ h => h) (Or.inl ⟨by rfl, ?_⟩) hHeld ?_ ?_
                                    rotate_left
                                    · rintro w' ⟨s0, s1, s2⟩
                                      go_simp
                                      with_reducible rfl
                                    rotate_left
                                    · simp only [Act.put, List.setIfInBounds_toArray, List.set_cons_zero, List.set_cons_succ, i64_w, i32_w]
                                      rfl
                                    refine take_ (i := 20) (N := some 85) (v := ?_) (a' := ?_) #[true, true, true, true, true, true, true, true, true, true, true, true, true, false, true, true, true, true, true, true, true, false, false, false, false, false, false, false, false, false, false, false, false, false, false, false, false, false, false] rfl rfl (take_ofW HT_.out HW_.out (by kernel_rfl)) (fun _ _ _ h => h) (Or.inl ⟨by rfl, ?_⟩) hHeld ?_ ?_
                                    rotate_left
                                    · rintro w' ⟨s0, s1, s2⟩
                                      go_simp
                                      with_reducible rfl
                                    rotate_left
                                    · simp only [Act.put, List.setIfInBounds_toArray, List.set_cons_zero, List.set_cons_succ, i64_w, i32_w]
                                      rfl
                                    refine one_ (i := 13) (N := some 78) #[true, true, true, true, true, true, true, true, true, true, true, true, true, true, true, true, true, true, true, true, true, false, false, false, false, false, false, false, false, false, false, false, false, false, false, false, false, false, false] rfl rfl (one_of HT_.out (by kernel_rfl)) (by decide) (fun K hK => ?_)
                                    refine goes_ Try.func17 (by kernel_rfl) rfl #[.agg #[.int .i64 t217, .slice Ao14 t218.length co14], .int .i64 a1] (by rfl) rfl rfl (by (try simp only [List.map_toArray, List.map_cons, List.map_nil]); first | done | rfl | (simp only [List.length_drop, List.length_take]; rfl)) ?_
                                    with_reducible refine (table_At.calls k3 t217 _ _ t218 a1 t226 _ ?side1 ?side2 A24.out).mono ?_
                                    (case side1 => repeat (first | exact (Kd.R_reads' HO_223001.out).2.2 | (with_reducible refine Kd.C_alloc ?_ _) | (with_reducible refine Kd.C_drewN ?_ _) | (with_reducible refine Kd.C_drew ?_)))
                                    (case side2 => exact (Kd.R_reads' HO_223001.out).2.1)
                                    rintro e w35 ⟨rfl, hb⟩
                                    refine ⟨_, rfl, ?_⟩
                                    have n0_ := Aside0.mk (Kd.R_below (by (with_reducible repeat (first | apply Kd.R_alloc | apply Kd.R_drewN | apply Kd.R_drew)); exact HO_223001.out) hb)
                                    have n1_ := Aside0.mk (blk_below (g := gb222) (o := .cells #[.int .i64 t217, .slice Ao14 t218.length co14] 24 (0, 0)) (by (with_reducible repeat (first | refine blk_drewN ?_ _ | refine blk_drew ?_ | refine blk_alloc ?_ _)); exact BK222.out) hb)
                                    have n2_ := Aside0.mk (below_step (by repeat (first | (with_reducible first | exact HB.out | apply below_alloc | apply pw_below_drewN | apply below_drew1 | refine below_set ?_ GE222.out) | exact HB.out)) hb)
                                    clear HO_223001
                                    clear BK222
                                    clear HB
                                    have HO_223001 := n0_
                                    have BK222 := n1_
                                    have HB := n2_
                                    clear n0_ n1_ n2_
                                    (try clear hb)
                                    (try clear hb2)
                                    (try clear hk)
                                    (try clear hi)
                                    refine hK.out _ _ ⟨(blk_cell BK222.out 0).trans rfl, (blk_cell BK222.out 1).trans rfl, ((HB.out.cell (World.block_lt_of_cell? w _ hw227_0)).trans hw227_0)⟩ (fun hHeld => ?_)
                                    clear hK K
                                    refine norm_ (a' := ?_) ?_ ?_
                                    rotate_left
                                    · show Act.put _ (some 78) _ = _
                                      simp only [Act.put, List.setIfInBounds_toArray, List.set_cons_zero, List.set_cons_succ, i64_w, i32_w]
                                      rfl
                                    refine pure_ (i := 21) (N := some 86) (v := ?_) (a' := ?_) #[true, true, true, true, true, true, true, true, true, true, true, true, true, true, true, true, true, true, true, true, true, true, false, false, false, false, false, false, false, false, false, false, false, false, false, false, false, false, false] rfl rfl (any_of HT_.out (by kernel_rfl)) (fun _ _ _ h => h) (Or.inl ⟨by rfl, ?_⟩) ?_ ?_
                                    rotate_left
                                    · intro w'
                                      go_simp
                                      with_reducible rfl
                                    rotate_left
                                    · simp only [Act.put, List.setIfInBounds_toArray, List.set_cons_zero, List.set_cons_succ, i64_w, i32_w]
                                      rfl
                                    refine pure_ (i := 22) (N := some 87) (v := ?_) (a' := ?_) #[true, true, true, true, true, true, true, true, true, true, true, true, true, true, true, true, true, true, true, true, true, true, true, false, false, false, false, false, false, false, false, false, false, false, false, false, false, false, false] rfl rfl (any_of HT_.out (by kernel_rfl)) (fun _ _ _ h => h) (Or.inl ⟨by rfl, ?_⟩) ?_ ?_
                                    rotate_left
                                    · intro w'
                                      go_simp
                                      with_reducible rfl
                                    rotate_left
                                    · simp only [Act.put, List.setIfInBounds_toArray, List.set_cons_zero, List.set_cons_succ, i64_w, i32_w]
                                      rfl
                                    refine pure_ (i := 23) (N := some 88) (v := ?_) (a' := ?_) #[true, true, true, true, true, true, true, true, true, true, true, true, true, true, true, true, true, true, true, true, true, true, true, true, false, false, false, false, false, false, false, false, false, false, false, false, false, false, false] rfl rfl (any_of HT_.out (by kernel_rfl)) (fun _ _ _ h => h) (Or.inl ⟨by rfl, ?_⟩) ?_ ?_
                                    rotate_left
                                    · intro w'
                                      go_simp
                                      with_reducible rfl
                                    rotate_left
                                    · simp only [Act.put, List.setIfInBounds_toArray, List.set_cons_zero, List.set_cons_succ, i64_w, i32_w]
                                      rfl
                                    refine pure_ (i := 25) (N := some 90) (v := ?_) (a' := ?_) #[true, true, true, true, true, true, true, true, true, true, true, true, true, true, true, true, true, true, true, true, true, true, true, true, false, true, false, false, false, false, false, false, false, false, false, false, false, false, false] rfl rfl (any_of HT_.out (by kernel_rfl)) (fun _ _ _ h => h) (Or.inl ⟨by rfl, ?_⟩) ?_ ?_
                                    rotate_left
                                    · intro w'
                                      go_simp
                                      with_reducible rfl
                                    rotate_left
                                    · simp only [Act.put, List.setIfInBounds_toArray, List.set_cons_zero, List.set_cons_succ, i64_w, i32_w]
                                      rfl
                                    refine pure_ (i := 26) (N := some 91) (v := ?_) (a' := ?_) #[true, true, true, true, true, true, true, true, true, true, true, true, true, true, true, true, true, true, true, true, true, true, true, true, false, true, true, false, false, false, false, false, false, false, false, false, false, false, false] rfl rfl (any_of HT_.out (by kernel_rfl)) (fun _ _ _ h => h) (Or.inl ⟨by rfl, ?_⟩) ?_ ?_
                                    rotate_left
                                    · intro w'
                                      go_simp
                                      with_reducible rfl
                                    rotate_left
                                    · simp only [Act.put, List.setIfInBounds_toArray, List.set_cons_zero, List.set_cons_succ, i64_w, i32_w]
                                      rfl
                                    refine pure_ (i := 31) (N := some 96) (v := ?_) (a' := ?_) #[true, true, true, true, true, true, true, true, true, true, true, true, true, true, true, true, true, true, true, true, true, true, true, true, false, true, true, false, false, false, false, true, false, false, false, false, false, false, false] rfl rfl (any_of HT_.out (by kernel_rfl)) (fun _ _ _ h => h) (Or.inl ⟨by rfl, ?_⟩) ?_ ?_
                                    rotate_left
                                    · intro w'
                                      go_simp
                                      with_reducible rfl
                                    rotate_left
                                    · simp only [Act.put, List.setIfInBounds_toArray, List.set_cons_zero, List.set_cons_succ, i64_w, i32_w]
                                      rfl
                                    refine take_ (i := 24) (N := some 89) (v := ?_) (a' := ?_) #[true, true, true, true, true, true, true, true, true, true, true, true, true, true, true, true, true, true, true, true, true, true, true, true, true, true, true, false, false, false, false, true, false, false, false, false, false, false, false] rfl rfl (take_ofW HT_.out HW_.out (by kernel_rfl)) (fun _ _ _ h => h) (Or.inl ⟨by rfl, ?_⟩) hHeld ?_ ?_
                                    rotate_left
                                    · rintro w' ⟨s0, s1, s2⟩
                                      go_simp
                                      with_reducible rfl
                                    rotate_left
                                    · simp only [Act.put, List.setIfInBounds_toArray, List.set_cons_zero, List.set_cons_succ, i64_w, i32_w]
                                      rfl
                                    refine take_ (i := 27) (N := some 92) (v := ?_) (a' := ?_) #[true, true, true, true, true, true, true, true, true, true, true, true, true, true, true, true, true, true, true, true, true, true, true, true, true, true, true, true, false, false, false, true, false, false, false, false, false, false, false] rfl rfl (take_ofW HT_.out HW_.out (by kernel_rfl)) (fun _ _ _ h => h) (Or.inl ⟨by rfl, ?_⟩) hHeld ?_ ?_
                                    rotate_left
                                    · rintro w' ⟨s0, s1, s2⟩
                                      go_simp
                                      with_reducible rfl
                                    rotate_left
                                    · simp only [Act.put, List.setIfInBounds_toArray, List.set_cons_zero, List.set_cons_succ, i64_w, i32_w]
                                      rfl
                                    refine pure_ (i := 28) (N := some 93) (v := ?_) (a' := ?_) #[true, true, true, true, true, true, true, true, true, true, true, true, true, true, true, true, true, true, true, true, true, true, true, true, true, true, true, true, true, false, false, true, false, false, false, false, false, false, false] rfl rfl (any_of HT_.out (by kernel_rfl)) (fun _ _ _ h => h) (Or.inl ⟨by rfl, ?_⟩) ?_ ?_
                                    rotate_left
                                    · intro w'
                                      go_simp
                                      with_reducible rfl
                                    rotate_left
                                    · simp only [Act.put, List.setIfInBounds_toArray, List.set_cons_zero, List.set_cons_succ, i64_w, i32_w]
                                      rfl
                                    refine take_ (i := 30) (N := some 95) (v := ?_) (a' := ?_) #[true, true, true, true, true, true, true, true, true, true, true, true, true, true, true, true, true, true, true, true, true, true, true, true, true, true, true, true, true, false, true, true, false, false, false, false, false, false, false] rfl rfl (take_ofW HT_.out HW_.out (by kernel_rfl)) (fun _ _ _ h => h) (Or.inl ⟨by rfl, ?_⟩) hHeld ?_ ?_
                                    rotate_left
                                    · rintro w' ⟨s0, s1, s2⟩
                                      go_simp
                                      with_reducible rfl
                                    rotate_left
                                    · simp only [Act.put, List.setIfInBounds_toArray, List.set_cons_zero, List.set_cons_succ, i64_w, i32_w]
                                      rfl
                                    refine one_ (i := 29) (N := some 94) #[true, true, true, true, true, true, true, true, true, true, true, true, true, true, true, true, true, true, true, true, true, true, true, true, true, true, true, true, true, true, true, true, false, false, false, false, false, false, false] rfl rfl (one_of HT_.out (by kernel_rfl)) (by decide) (fun K hK => ?_)
                                    refine goes_ Try.func17 (by kernel_rfl) rfl #[.agg #[.int .i64 t217, .slice Ao14 t218.length co14], .int .i64 (wrap64 (a1 + t217))] (by rfl) rfl rfl (by (try simp only [List.map_toArray, List.map_cons, List.map_nil]); first | done | rfl | (simp only [List.length_drop, List.length_take]; rfl)) ?_
                                    with_reducible refine (table_At.calls k3 t217 _ _ t218 (wrap64 (a1 + t217)) t228 _ ?side1 ?side2 A30.out).mono ?_
                                    (case side1 => repeat (first | exact (Kd.R_reads' HO_223001.out).2.2 | (with_reducible refine Kd.C_alloc ?_ _) | (with_reducible refine Kd.C_drewN ?_ _) | (with_reducible refine Kd.C_drew ?_)))
                                    (case side2 => exact (Kd.R_reads' HO_223001.out).2.1)
                                    rintro e w36 ⟨rfl, hb⟩
                                    refine ⟨_, rfl, ?_⟩
                                    have n0_ := Aside0.mk (Kd.R_below (by (with_reducible repeat (first | apply Kd.R_alloc | apply Kd.R_drewN | apply Kd.R_drew)); exact HO_223001.out) hb)
                                    have n1_ := Aside0.mk (blk_below (g := gb222) (o := .cells #[.int .i64 t217, .slice Ao14 t218.length co14] 24 (0, 0)) (by (with_reducible repeat (first | refine blk_drewN ?_ _ | refine blk_drew ?_ | refine blk_alloc ?_ _)); exact BK222.out) hb)
                                    have n2_ := Aside0.mk (below_step (by repeat (first | (with_reducible first | exact HB.out | apply below_alloc | apply pw_below_drewN | apply below_drew1 | refine below_set ?_ GE222.out) | exact HB.out)) hb)
                                    clear HO_223001
                                    clear BK222
                                    clear HB
                                    have HO_223001 := n0_
                                    have BK222 := n1_
                                    have HB := n2_
                                    clear n0_ n1_ n2_
                                    (try clear hb)
                                    (try clear hb2)
                                    (try clear hk)
                                    (try clear hi)
                                    refine hK.out _ _ ⟨(blk_cell BK222.out 0).trans rfl, (blk_cell BK222.out 1).trans rfl, ((HB.out.cell (World.block_lt_of_cell? w _ hw227_0)).trans hw227_0)⟩ (fun hHeld => ?_)
                                    clear hK K
                                    refine norm_ (a' := ?_) ?_ ?_
                                    rotate_left
                                    · show Act.put _ (some 94) _ = _
                                      simp only [Act.put, List.setIfInBounds_toArray, List.set_cons_zero, List.set_cons_succ, i64_w, i32_w]
                                      rfl
                                    refine one_ (i := 32) (N := some 97) #[true, true, true, true, true, true, true, true, true, true, true, true, true, true, true, true, true, true, true, true, true, true, true, true, true, true, true, true, true, true, true, true, true, false, false, false, false, false, false] rfl rfl (one_of HT_.out (by kernel_rfl)) (by decide) (fun K hK => ?_)
                                    refine goes_ Try.func17 (by kernel_rfl) rfl #[.agg #[.int .i64 t217, .slice Ao14 t218.length co14], .int .i64 a1] (by rfl) rfl rfl (by (try simp only [List.map_toArray, List.map_cons, List.map_nil]); first | done | rfl | (simp only [List.length_drop, List.length_take]; rfl)) ?_
                                    with_reducible refine (table_At.calls k3 t217 _ _ t218 a1 t229 _ ?side1 ?side2 A31.out).mono ?_
                                    (case side1 => repeat (first | exact (Kd.R_reads' HO_223001.out).2.2 | (with_reducible refine Kd.C_alloc ?_ _) | (with_reducible refine Kd.C_drewN ?_ _) | (with_reducible refine Kd.C_drew ?_)))
                                    (case side2 => exact (Kd.R_reads' HO_223001.out).2.1)
                                    rintro e w37 ⟨rfl, hb⟩
                                    refine ⟨_, rfl, ?_⟩
                                    have n0_ := Aside0.mk (Kd.R_below (by (with_reducible repeat (first | apply Kd.R_alloc | apply Kd.R_drewN | apply Kd.R_drew)); exact HO_223001.out) hb)
                                    have n1_ := Aside0.mk (blk_below (g := gb222) (o := .cells #[.int .i64 t217, .slice Ao14 t218.length co14] 24 (0, 0)) (by (with_reducible repeat (first | refine blk_drewN ?_ _ | refine blk_drew ?_ | refine blk_alloc ?_ _)); exact BK222.out) hb)
                                    have n2_ := Aside0.mk (below_step (by repeat (first | (with_reducible first | exact HB.out | apply below_alloc | apply pw_below_drewN | apply below_drew1 | refine below_set ?_ GE222.out) | exact HB.out)) hb)
                                    clear HO_223001
                                    clear BK222
                                    clear HB
                                    have HO_223001 := n0_
                                    have BK222 := n1_
                                    have HB := n2_
                                    clear n0_ n1_ n2_
                                    (try clear hb)
                                    (try clear hb2)
                                    (try clear hk)
                                    (try clear hi)
                                    refine hK.out _ _ ⟨(blk_cell BK222.out 0).trans rfl, (blk_cell BK222.out 1).trans rfl, ((HB.out.cell (World.block_lt_of_cell? w _ hw227_0)).trans hw227_0)⟩ (fun hHeld => ?_)
                                    clear hK K
                                    refine norm_ (a' := ?_) ?_ ?_
                                    rotate_left
                                    · show Act.put _ (some 97) _ = _
                                      simp only [Act.put, List.setIfInBounds_toArray, List.set_cons_zero, List.set_cons_succ, i64_w, i32_w]
                                      rfl
                                    refine pure_ (i := 33) (N := some 98) (v := ?_) (a' := ?_) #[true, true, true, true, true, true, true, true, true, true, true, true, true, true, true, true, true, true, true, true, true, true, true, true, true, true, true, true, true, true, true, true, true, true, false, false, false, false, false] rfl rfl (any_of HT_.out (by kernel_rfl)) (fun _ _ _ h => h) (Or.inl ⟨by rfl, ?_⟩) ?_ ?_
                                    rotate_left
                                    · intro w'
                                      go_simp
                                      with_reducible rfl
                                    rotate_left
                                    · simp only [Act.put, List.setIfInBounds_toArray, List.set_cons_zero, List.set_cons_succ, i64_w, i32_w]
                                      rfl
                                    refine pure_ (i := 34) (N := some 99) (v := ?_) (a' := ?_) #[true, true, true, true, true, true, true, true, true, true, true, true, true, true, true, true, true, true, true, true, true, true, true, true, true, true, true, true, true, true, true, true, true, true, true, false, false, false, false] rfl rfl (any_of HT_.out (by kernel_rfl)) (fun _ _ _ h => h) (Or.inl ⟨by rfl, ?_⟩) ?_ ?_
                                    rotate_left
                                    · intro w'
                                      go_simp
                                      with_reducible rfl
                                    rotate_left
                                    · simp only [Act.put, List.setIfInBounds_toArray, List.set_cons_zero, List.set_cons_succ, i64_w, i32_w]
                                      rfl
                                    refine pure_ (i := 35) (N := some 100) (v := ?_) (a' := ?_) #[true, true, true, true, true, true, true, true, true, true, true, true, true, true, true, true, true, true, true, true, true, true, true, true, true, true, true, true, true, true, true, true, true, true, true, true, false, false, false] rfl rfl (any_of HT_.out (by kernel_rfl)) (fun _ _ _ h => h) (Or.inl ⟨by rfl, ?_⟩) ?_ ?_
                                    rotate_left
                                    · intro w'
                                      go_simp
                                      with_reducible rfl
                                    rotate_left
                                    · simp only [Act.put, List.setIfInBounds_toArray, List.set_cons_zero, List.set_cons_succ, i64_w, i32_w]
                                      rfl
                                    refine one_ (i := 36) (N := some 101) #[true, true, true, true, true, true, true, true, true, true, true, true, true, true, true, true, true, true, true, true, true, true, true, true, true, true, true, true, true, true, true, true, true, true, true, true, true, false, false] rfl rfl (one_of HT_.out (by kernel_rfl)) (by decide) (fun K hK => ?_)
                                    refine goes_ Try.func13 (by kernel_rfl) rfl #[] (by rfl) rfl rfl (by (try simp only [List.map_toArray, List.map_cons, List.map_nil]); first | done | rfl | (simp only [List.length_drop, List.length_take]; rfl)) ?_
                                    with_reducible refine (remontoirlaw13_knows.calls k3  t230 _ A33.out).mono ?_
                                    rintro e w38 ⟨rfl, hb⟩
                                    refine ⟨_, rfl, ?_⟩
                                    have n0_ := Aside0.mk (Kd.R_below (by (with_reducible repeat (first | apply Kd.R_alloc | apply Kd.R_drewN | apply Kd.R_drew)); exact HO_223001.out) hb)
                                    have n1_ := Aside0.mk (blk_below (g := gb222) (o := .cells #[.int .i64 t217, .slice Ao14 t218.length co14] 24 (0, 0)) (by (with_reducible repeat (first | refine blk_drewN ?_ _ | refine blk_drew ?_ | refine blk_alloc ?_ _)); exact BK222.out) hb)
                                    have n2_ := Aside0.mk (below_step (by repeat (first | (with_reducible first | exact HB.out | apply below_alloc | apply pw_below_drewN | apply below_drew1 | refine below_set ?_ GE222.out) | exact HB.out)) hb)
                                    clear HO_223001
                                    clear BK222
                                    clear HB
                                    have HO_223001 := n0_
                                    have BK222 := n1_
                                    have HB := n2_
                                    clear n0_ n1_ n2_
                                    (try clear hb)
                                    (try clear hb2)
                                    (try clear hk)
                                    (try clear hi)
                                    refine hK.out _ _ ⟨(blk_cell BK222.out 0).trans rfl, (blk_cell BK222.out 1).trans rfl, ((HB.out.cell (World.block_lt_of_cell? w _ hw227_0)).trans hw227_0)⟩ (fun hHeld => ?_)
                                    clear hK K
                                    refine norm_ (a' := ?_) ?_ ?_
                                    rotate_left
                                    · show Act.put _ (some 101) _ = _
                                      simp only [Act.put, List.setIfInBounds_toArray, List.set_cons_zero, List.set_cons_succ, i64_w, i32_w]
                                      rfl
                                    refine pure_ (i := 37) (N := some 102) (v := ?_) (a' := ?_) #[true, true, true, true, true, true, true, true, true, true, true, true, true, true, true, true, true, true, true, true, true, true, true, true, true, true, true, true, true, true, true, true, true, true, true, true, true, true, false] rfl rfl (any_of HT_.out (by kernel_rfl)) (fun _ _ _ h => h) (Or.inl ⟨by rfl, ?_⟩) ?_ ?_
                                    rotate_left
                                    · intro w'
                                      go_simp
                                      with_reducible rfl
                                    rotate_left
                                    · simp only [Act.put, List.setIfInBounds_toArray, List.set_cons_zero, List.set_cons_succ, i64_w, i32_w]
                                      rfl
                                    refine pure_ (i := 38) (N := some 4) (v := ?_) (a' := ?_) #[true, true, true, true, true, true, true, true, true, true, true, true, true, true, true, true, true, true, true, true, true, true, true, true, true, true, true, true, true, true, true, true, true, true, true, true, true, true, true] rfl rfl (any_of HT_.out (by kernel_rfl)) (fun _ _ _ h => h) (Or.inl ⟨by rfl, ?_⟩) ?_ ?_
                                    rotate_left
                                    · intro w'
                                      go_simp
                                      with_reducible rfl
                                    rotate_left
                                    · simp only [Act.put, List.setIfInBounds_toArray, List.set_cons_zero, List.set_cons_succ, i64_w, i32_w]
                                      rfl
                                    refine done_ (done_of HT_.out (by kernel_rfl)) ?_
                                    try go_wp2
                                    go_ret
                                    exact ⟨by first | rfl | (rw [HR_.out] <;> rfl) | (simp [errW_none, errW_some] <;> rfl) | (simp only [← hji26]; first | rfl | (simp [errW_none, errW_some] <;> rfl)) | (simp [*, errW_none, errW_some] <;> rfl), by repeat (first | (with_reducible first | exact HB.out | apply below_alloc | apply pw_below_drewN | apply below_drew1 | refine below_set ?_ GE222.out) | exact HB.out)⟩
                                  · rw [if_neg c32] at H
                                    have c32b0 : (t228 == t229) = false := beq_eq_false_iff_ne.mpr c32
                                    have c32b1 : (t228 != t229) = true := bne_iff_ne.mpr c32
                                    exact absurd H (by simp)
                                · rw [if_neg c29] at H
                                  have c29b0 : (t226 == (rd l0 (ji26))) = false := beq_eq_false_iff_ne.mpr c29
                                  have c29b1 : (t226 != (rd l0 (ji26))) = true := bne_iff_ne.mpr c29
                                  exact absurd H (by simp)
                              · rw [if_neg c28] at H
                                exact absurd H (by simp)
                            · rw [if_neg c27] at H
                              exact absurd H (by simp)
                        · rw [if_neg c23] at H
                          have c23b0 : (t217 == (l0.length : Int)) = false := beq_eq_false_iff_ne.mpr c23
                          have c23b1 : (t217 != (l0.length : Int)) = true := bne_iff_ne.mpr c23
                          exact absurd H (by simp)
                      · rw [if_neg c22] at H
                        have c22b0 : (x7_2 == x8_3) = false := beq_eq_false_iff_ne.mpr c22
                        have c22b1 : (x7_2 != x8_3) = true := bne_iff_ne.mpr c22
                        exact absurd H (by simp)
        · rw [if_neg c10] at H
          have c10b0 : (t221 == 0) = false := beq_eq_false_iff_ne.mpr c10
          have c10b1 : (t221 != 0) = true := bne_iff_ne.mpr c10
          by_cases c39 : (t218.length : Int) = 0
          · rw [if_pos c39] at H
            have c39b0 : ((t218.length : Int) == 0) = true := beq_iff_eq.mpr c39
            have c39b1 : ((t218.length : Int) != 0) = false := bne_eq_false_iff_eq.mpr c39
            clear c39
            replace H := Option.bind_eq_some_iff.mp H
            obtain ⟨t223, A400, H⟩ := H
            replace H : (some t223) = some true := H
            have A40 := Aside0.mk A400
            clear A400
            have HR_ := Aside0.mk (Option.some.inj H)
            clear H
            go_wp2_with (first | ((with_reducible refine gate_callee (f := 21) rfl ?_); refine goesL_ (some 25) rfl rfl Try.func21 (by kernel_rfl) rfl #[.slice A0 l0.length c0] rfl (by (try simp only [List.map_toArray, List.map_cons, List.map_nil]); first | done | rfl | (simp only [List.length_drop, List.length_take]; rfl)) ?_; (with_reducible refine (table_Of.calls kj2 _ _ l0 t217 t218 t221 _ ?side1 ?side2 A9.out).mono ?_); (case side1 => repeat (first | exact (Kd.C_below HR0.out HB.out) | (with_reducible refine Kd.C_alloc ?_ _) | (with_reducible refine Kd.C_drewN ?_ _) | (with_reducible refine Kd.C_drew ?_))); (case side2 => exact HC0.out); rintro e w41 ⟨v219, rfl, ho0, hb⟩; refine ⟨_, rfl, ?_⟩; have n0_ := Aside0.mk (Kd.R_lower ho0 (below_size (by repeat (first | (with_reducible first | exact HB.out | apply below_alloc | apply pw_below_drewN | apply below_drew1) | exact HB.out)))); have n1_ := Aside0.mk (below_step (by repeat (first | (with_reducible first | exact HB.out | apply below_alloc | apply pw_below_drewN | apply below_drew1) | exact HB.out)) hb); clear HB; have HO220 := n0_; have HB := n1_; clear n0_ n1_; (try clear hb); (try clear hb2); (try clear hk); (try clear hi); (try clear ho0)) | ((with_reducible refine gate_dst (N := 5) rfl ?_); (try (refine gate_guard (by rfl) ?_; dsimp only)); refine box_event ?hg (N := 5) ?hd (cs := #[.int .i64 0, .slice none 0 0]) (t := 24) ?hr ?_; (case hd => rfl); (case hg => rfl); (case hr => first | (go_simp; done) | (go_simp; rfl)); intro gb222 hg w42 hbox hb; have n0_ := Aside0.mk (Kd.R_below (by (with_reducible repeat (first | apply Kd.R_alloc | apply Kd.R_drewN | apply Kd.R_drew)); exact HO220.out) hb); have n1_ := Aside0.mk (below_step (by repeat (first | (with_reducible first | exact HB.out | apply below_alloc | apply pw_below_drewN | apply below_drew1) | exact HB.out)) hb); have n2_ := Aside0.mk (hbox); have n3_ := Aside0.mk ((by rw [hg]; exact (below_size (by repeat (first | (with_reducible first | exact HB.out | apply below_alloc | apply pw_below_drewN | apply below_drew1) | exact HB.out))) : w.heap.size ≤ gb222)); have n4_ := Aside0.mk ((by rw [hg]; exact (below_size (by repeat (first | (with_reducible first | exact HB.out | apply below_alloc | apply pw_below_drewN | apply below_drew1) | exact HB.out))) : w.heap.size ≤ gb222)); clear HO220; clear HB; have HO220 := n0_; have HB := n1_; have BK222 := n2_; have GW222 := n3_; have GE222 := n4_; clear n0_ n1_ n2_ n3_ n4_; clear hb hbox hg; have hcz43_0 : w42.cell? ⟨gb222, 0, none⟩ = some (.int .i64 0) := (blk_cell BK222.out 0).trans rfl; have hcz43_1 : w42.cell? ⟨gb222, 1, none⟩ = some (.slice none 0 0) := (blk_cell BK222.out 1).trans rfl; have hfz43_0 := blk_frozen BK222.out 0; have hfz43_1 := blk_frozen BK222.out 1; obtain ⟨Ao44, co44, eo44⟩ := Kd.R_slice HO220.out; subst eo44) | (go_at_call 13; (with_reducible refine (remontoirlaw13_knows.calls kj2  t223 _ A40.out).mono ?_); rintro e w45 ⟨rfl, hb⟩; have n0_ := Aside0.mk (Kd.R_below (by (with_reducible repeat (first | apply Kd.R_alloc | apply Kd.R_drewN | apply Kd.R_drew)); exact (Kd.R_mono (Kd.R_far (p := ⟨gb222, 1, none⟩) (Kd.R_far (p := ⟨gb222, 0, none⟩) (Kd.R_types HO220.out BK222.out (by decide)) (fun _ hk => hk.2) (.int .i64 t217)) (fun _ hk => hk.2) (.slice Ao44 t218.length co44)) (fun _ h_ => h_.1))) hb); have n1_ := Aside0.mk (blk_below (g := gb222) (o := .cells #[.int .i64 t217, .slice Ao44 t218.length co44] 24 (0, 0)) (by (with_reducible repeat (first | refine blk_drewN ?_ _ | refine blk_drew ?_ | refine blk_alloc ?_ _)); refine blk_put (cs := #[.int .i64 t217, .slice none 0 0]) ?_ 1 _ rfl; (with_reducible repeat (first | refine blk_drewN ?_ _ | refine blk_drew ?_ | refine blk_alloc ?_ _)); refine blk_put (cs := #[.int .i64 0, .slice none 0 0]) ?_ 0 _ rfl; (with_reducible repeat (first | refine blk_drewN ?_ _ | refine blk_drew ?_ | refine blk_alloc ?_ _)); exact BK222.out) hb); have n2_ := Aside0.mk (below_step (by repeat (first | (with_reducible first | exact HB.out | apply below_alloc | apply pw_below_drewN | apply below_drew1 | refine below_set ?_ GE222.out) | exact HB.out)) hb); clear HO220; clear BK222; clear HB; have HO220 := n0_; have BK222 := n1_; have HB := n2_; clear n0_ n1_ n2_; (try clear hb); (try clear hb2); (try clear hk); (try clear hi)))
            go_ret
            exact ⟨by first | rfl | (rw [HR_.out] <;> rfl) | (simp [errW_none, errW_some] <;> rfl) | (simp [*, errW_none, errW_some] <;> rfl), by repeat (first | (with_reducible first | exact HB.out | apply below_alloc | apply pw_below_drewN | apply below_drew1 | refine below_set ?_ GE222.out) | exact HB.out)⟩
          · rw [if_neg c39] at H
            have c39b0 : ((t218.length : Int) == 0) = false := beq_eq_false_iff_ne.mpr c39
            have c39b1 : ((t218.length : Int) != 0) = true := bne_iff_ne.mpr c39
            have c39b2 : ¬ (t218 = []) := fun h_ => c39 (by rw [h_]; rfl)
            exact absurd H (by simp)

/-- The statement of remontoirlaw13_TableWindows over plain data. -/
def remontoirlaw13_TableWindows.Pure : Prop := ∀ (l0 : List Int) (a1 : Int), (l0.length ≤ 9223372036854775807 ∧ ∀ x ∈ l0, (Lit.int .i64 x).wf = true) → (Lit.int .i64 a1).wf = true → ∃ k, remontoirlaw13_TableWindows.f k l0 a1 = some true

end Go.Proofs.Ytkfkghnmbemdiaa.FTable
