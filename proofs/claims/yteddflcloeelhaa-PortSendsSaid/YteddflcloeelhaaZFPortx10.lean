-- Written by the session (wip/tools) for this claim: functions of the program as Lean functions, and their contracts.
import Derived.Test.YteddflcloeelhaaZXShort
import Derived.Test.YteddflcloeelhaaZFPortx0
import Derived.Test.YteddflcloeelhaaZFPortx2
namespace Go.Proofs.Yteddflcloeelhaa.FPort
open Go.RowKit Go.Proofs.YteddflcloeelhaaW.PrintWords Go.Proofs.YteddflcloeelhaaW.PrintLast Go.Proofs.YteddflcloeelhaaW.PrintMore
attribute [local go_sem] max2_int min2_int max_two min_two max_three min_three max_four min_four   -- for this text's walks alone
set_option linter.unusedVariables false
set_option linter.unusedSimpArgs false

/-! ### ring_List: function 16 -/
def ring_List.l0 : Nat → List Int → Int → Int → List Int → Int → Int → Option (List Int)
  | 0, _, _, _, _, _, _ => none
  | k + 1, x3, x9, x10, x356000, x356001, x356002 => if x10 < x9 then ((ring_at.f x356000 x356001 x356002 x10).bind fun t357 => (if 0 ≤ t357 then (if t357 < (x356000.length : Int) then (if x3.length < 17592186044416 then (ring_List.l0 k (x3 ++ [rd x356000 t357]) x9 (wrap64 (x10 + 1)) x356000 x356001 x356002) else (none)) else (none)) else (none))) else (some x3)
def ring_List.f (k : Nat) (l0_0 : List Int) (a0_1 : Int) (a0_2 : Int) : Option (List Int) := (ring_Right.f l0_0 a0_1 a0_2).bind fun t356 => (if t356 = true then (ring_List.l0 k ([] : List Int) a0_2 0 l0_0 a0_1 a0_2) else (some ([] : List Int)))
theorem ring_List.mono_l : ∀ k, (∀ y0 y1 y2 y3 y4 y5, LeO (ring_List.l0 k y0 y1 y2 y3 y4 y5) (ring_List.l0 (k + 1) y0 y1 y2 y3 y4 y5))
  | 0 => fun _ _ _ _ _ _ r h => by simp [ring_List.l0] at h
  | k + 1 => by
    have ih0 := ring_List.mono_l k
    · intro y0 y1 y2 y3 y4 y5
      unfold ring_List.l0
      repeat' first | (with_reducible exact ih0 _ _ _ _ _ _) | (with_reducible exact LeO.refl _) | (with_reducible refine LeO.ite ?_ ?_) | (with_reducible refine LeO.bind ?_ (fun _ => ?_))
theorem ring_List.mono : ∀ a0 a1 a2 k, LeO (ring_List.f k a0 a1 a2) (ring_List.f (k + 1) a0 a1 a2) := by
  intro a0 a1 a2 k
  have ih0 := ring_List.mono_l k
  unfold ring_List.f
  repeat' first | (with_reducible exact ih0 _ _ _ _ _ _) | (with_reducible exact LeO.refl _) | (with_reducible refine LeO.ite ?_ ?_) | (with_reducible refine LeO.bind ?_ (fun _ => ?_))
def ring_List.T7 : Bool × List (List Nat × List Nat) := (true, [([], []), ([], []), ([1], [1]), ([], []), ([], []), ([3, 4], [3, 4]), ([2, 5], [2, 5]), ([6], [6]), ([7], [7]), ([0, 8, 5], [0, 8]), ([9, 9, 0, 1, 2, 3, 4, 5, 6, 7, 8, 9], [0, 9])])
def ring_List.B7 : List Nat := [0, 0, 2, 0, 0, 24, 62, 126, 254, 511, 1023]
theorem ring_List.tab7 : rtab .any (opsOf Try.f16 7) = ring_List.T7 := by kernel_rfl
theorem ring_List.bits7 : waitsOk ring_List.T7.2 ring_List.B7 = true := by kernel_rfl
set_option maxHeartbeats 8000000 in
set_option maxRecDepth 100000 in
theorem ring_List.calls (k : Nat) (A0_0 : Option Addr) (c0_0 : Nat) (l0_0 : List Int) (a0_1 : Int) (a0_2 : Int) (r : List Int) (w : World) (hr0_0 : Kd.C (Kd.int .i64) w A0_0 l0_0.length l0_0) (hc0_0 : l0_0.length ≤ c0_0) (h : ring_List.f k l0_0 a0_1 a0_2 = some r) :
    Calls Try.prog 16 #[.agg #[.slice A0_0 l0_0.length c0_0, .int .i64 a0_1, .int .i64 a0_2]] w fun e w' => ∃ v0_ : Value, e = .returned (v0_) ∧ Kd.R (Kd.int .i64) 3 w' w.heap.size (fun _ => True) v0_ r ∧ Below w.heap.size w w' := by
  have hu24 := Try.underlying24
  have HR0_0 := Aside0.mk hr0_0
  have HC0_0 := Aside0.mk hc0_0
  clear hr0_0 hc0_0
  have HB := Aside0.mk (Below.refl w.heap.size w)
  have H : ((ring_Right.f l0_0 a0_1 a0_2).bind fun t356 => (if t356 = true then (ring_List.l0 k ([] : List Int) a0_2 0 l0_0 a0_1 a0_2) else (some ([] : List Int)))) = some r := h
  clear h
  replace H := Option.bind_eq_some_iff.mp H
  obtain ⟨t356, A20, H⟩ := H
  replace H : (if t356 = true then (ring_List.l0 k ([] : List Int) a0_2 0 l0_0 a0_1 a0_2) else (some ([] : List Int))) = some r := H
  have A2 := Aside0.mk A20
  clear A20
  by_cases c3 : t356 = true
  · subst c3
    have H1 : (ring_List.l0 k ([] : List Int) a0_2 0 l0_0 a0_1 a0_2) = some r := by rw [if_pos rfl] at H; exact H
    clear H
    have H := H1
    clear H1
    have H' := Aside0.mk H
    clear H
    go_enter Try.func16, Try.ntmps16
    go_wp2_with (first | ((with_reducible refine gate_dst (N := 1) rfl ?_); refine box_event ?hg (N := 1) ?hd (cs := #[.slice A0_0 l0_0.length c0_0, .int .i64 a0_1, .int .i64 a0_2]) (t := 24) ?hr ?_; (case hd => rfl); (case hg => rfl); (case hr => (go_simp; done)); intro gb355 hg w4 hbox hb; have n1_ := Aside0.mk (hbox); have n2_ := Aside0.mk ((by rw [hg]; exact (below_size HB.out) : w.heap.size ≤ gb355)); have n3_ := Aside0.mk ((by rw [hg]; exact (below_size HB.out) : w.heap.size ≤ gb355)); have BK355 := n1_; have GW355 := n2_; have GE355 := n3_; clear n1_ n2_ n3_; replace HB := hb_ HB hb; clear hb hbox hg; obtain ⟨hcz5_0, hcz5_1, hcz5_2, hfz5_0, hfz5_1, hfz5_2⟩ := bk3_ BK355.out) | ((with_reducible refine gate_callee (f := 17) rfl ?_); refine goesL_ (some 6) rfl rfl Try.func17 (by kernel_rfl) rfl #[.agg #[.slice A0_0 l0_0.length c0_0, .int .i64 a0_1, .int .i64 a0_2]] rfl (by (try simp only [List.map_toArray, List.map_cons, List.map_nil]); rfl) ?_; (with_reducible refine (ring_Right.calls _ _ l0_0 a0_1 a0_2 true _ ?side1 ?side2 A2.out).mono ?_); (case side1 => repeat ((exact (Kd.C_below HR0_0.out HB.out)))); (case side2 => exact HC0_0.out); rintro e w6 ⟨rfl, hb⟩; refine ⟨_, rfl, ?_⟩; replace BK355 := kb_ BK355 hb; replace HB := hb_ HB hb; (try clear hb); (try clear hb2); (try clear hk); (try clear hi); obtain ⟨hcz7_0, hcz7_1, hcz7_2, hfz7_0, hfz7_1, hfz7_2⟩ := bk3_ BK355.out))
    go_loopg [3, 10] k (fun kq v3 v10 w' => ∃ (x3_1 : List Int) (x10_1 : Int), v10 = .int .i64 x10_1 ∧ Aside0 (ring_List.l0 kq x3_1 a0_2 x10_1 l0_0 a0_1 a0_2 = some r) ∧ Aside0 (kq ≤ k) ∧ Aside0 (Kd.R (Kd.int .i64) 3 w' w.heap.size (fun _ => True) v3 x3_1) ∧ Aside0 (w'.heap[gb355]? = some (.cells #[(.slice A0_0 l0_0.length c0_0), .int .i64 a0_1, .int .i64 a0_2] 24 (0, 0))) ∧ Aside0 (Below w.heap.size w w'))
    case atStart => exact ⟨(([] : List Int)), (0), (by rfl), H', ⟨Nat.le_refl _⟩, ⟨by (exact Kd.R_nil _ _ _ _ _)⟩, ⟨BK355.out⟩, ⟨HB.out⟩⟩
    case round =>
      clear H'
      try clear c1
      try clear p2
      try clear c3
      try clear hcz5_0
      try clear hcz5_1
      try clear hcz5_2
      try clear hcz7_0
      try clear hcz7_1
      try clear hcz7_2
      try clear hfz5_0
      try clear hfz5_1
      try clear hfz5_2
      try clear hfz7_0
      try clear hfz7_1
      try clear hfz7_2
      obtain ⟨x3_1, x10_1, rfl, HA, HK1, HO_3, BK355, HB⟩ := hrel
      cases gk with
      | zero => exact absurd HA.out (by simp [ring_List.l0])
      | succ k1 =>
        have H := HA.out
        clear HA
        simp only [ring_List.l0] at H
        by_cases c8 : x10_1 < a0_2
        · rw [if_pos c8] at H
          have c8b0 : decide (x10_1 < a0_2) = true := decide_eq_true c8
          clear c8
          replace H := Option.bind_eq_some_iff.mp H
          obtain ⟨t357, A90, H⟩ := H
          replace H : (if 0 ≤ t357 then (if t357 < (l0_0.length : Int) then (if x3_1.length < 17592186044416 then (ring_List.l0 k1 (x3_1 ++ [rd l0_0 t357]) a0_2 (wrap64 (x10_1 + 1)) l0_0 a0_1 a0_2) else (none)) else (none)) else (none)) = some r := H
          have A9 := Aside0.mk A90
          clear A90
          by_cases c10 : 0 ≤ t357
          · rw [if_pos c10] at H
            have c10b0 : decide (0 ≤ t357) = true := decide_eq_true c10
            clear c10
            by_cases c11 : t357 < (l0_0.length : Int)
            · rw [if_pos c11] at H
              have c11b0 : decide (t357 < (l0_0.length : Int)) = true := decide_eq_true c11
              clear c11
              by_cases c12 : x3_1.length < 17592186044416
              · rw [if_pos c12] at H
                have LMc12 := Aside0.mk c12
                clear c12
                obtain ⟨y359, hy359⟩ : ∃ y_ : List Int, y_ = (x3_1 ++ [rd l0_0 t357]) := ⟨_, rfl⟩
                replace H : (ring_List.l0 k1 y359 a0_2 (wrap64 (x10_1 + 1)) l0_0 a0_1 a0_2) = some r := by (rw [hy359]; with_reducible exact H)
                have Ny359 := Aside0.mk hy359
                clear hy359
                have H' := Aside0.mk H
                clear H
                try go_wp2
                have n0_ := Aside0.mk (Kd.R_drew HO_3.out)
                have n1_ := Aside0.mk (blk_drew BK355.out)
                have n2_ := Aside0.mk (below_drew1 HB.out)
                clear HO_3 BK355 HB; have HO_3 := n0_; have BK355 := n1_; have HB := n2_; clear n0_ n1_ n2_
                have p358 : 0 ≤ (t357 : Int) := of_decide_eq_true (by (with_reducible assumption))
                have q358 : t357 < (l0_0.length : Int) := of_decide_eq_true (by (with_reducible assumption))
                obtain ⟨ad358, e358, hx358_0⟩ := Kd.at_int HR0_0.out t357 p358 q358
                have hw358_0 := hx358_0
                cases e358
                replace hx358_0 := bc_ HB.out hx358_0
                replace p358 := eq_true p358
                replace q358 := eq_true q358
                refine start_ (n := 11) (S := fun w' => w'.cell? ⟨gb355, 0, none⟩ = some (.slice (some ad358) l0_0.length c0_0) ∧ w'.cell? ⟨gb355, 1, none⟩ = some (.int .i64 a0_1) ∧ w'.cell? ⟨gb355, 2, none⟩ = some (.int .i64 a0_2) ∧ w'.cell? (ad358.add (t357).toNat) = some (.int .i64 (rd l0_0 t357))) (ds := []) #[false, false, false, false, false, false, false, false, false, false, false] (by kernel_rfl) rfl rfl ⟨(blk_cell BK355.out 0).trans rfl, (blk_cell BK355.out 1).trans rfl, (blk_cell BK355.out 2).trans rfl, bc_ HB.out hw358_0⟩ (fun hHeld => ?_); refine with_tabW ring_List.tab7 ring_List.bits7 (fun HT_ HW_ => ?_)
                generalize wr.drew = w13 at HO_3 BK355 HB hx358_0 hHeld ⊢
                refine pa_ 0 13 (bm 11 0x1) HT_ (h := ?_)
                refine pa_ 1 14 (bm 11 0x3) HT_ (h := ?_)
                refine pa_ 4 17 (bm 11 0x13) HT_ (h := ?_)
                refine take_ (i := 2) (N := some 15) (v := ?_) (a' := ?_) (bm 11 0x17) rfl rfl (take_ofW HT_.out HW_.out (by kernel_rfl)) (fun _ _ _ h => h) (Or.inl ⟨by rfl, ?_⟩) hHeld ?_ ?_
                rotate_left
                · rintro w' ⟨s0, s1, s2, s3⟩
                  go_simp
                  with_reducible rfl
                rotate_left
                · simp only [Act.put, List.setIfInBounds_toArray, List.set_cons_zero, List.set_cons_succ, i64_w, i32_w]
                  rfl
                refine take_ (i := 3) (N := some 16) (v := ?_) (a' := ?_) (bm 11 0x1f) rfl rfl (take_ofW HT_.out HW_.out (by kernel_rfl)) (fun _ _ _ h => h) (Or.inl ⟨by rfl, ?_⟩) hHeld ?_ ?_
                rotate_left
                · rintro w' ⟨s0, s1, s2, s3⟩
                  go_simp
                  with_reducible rfl
                rotate_left
                · simp only [Act.put, List.setIfInBounds_toArray, List.set_cons_zero, List.set_cons_succ, i64_w, i32_w]
                  rfl
                refine one_ (i := 5) (N := some 18) (bm 11 0x3f) rfl rfl (one_of HT_.out (by kernel_rfl)) (by decide) (fun K hK => ?_)
                refine goes_ Try.func41 (by kernel_rfl) rfl #[.agg #[.slice (some ad358) l0_0.length c0_0, .int .i64 a0_1, .int .i64 a0_2], .int .i64 x10_1] (by rfl) rfl rfl (by (try simp only [List.map_toArray, List.map_cons, List.map_nil]); rfl) ?_
                with_reducible refine (ring_at.calls _ _ l0_0 a0_1 a0_2 x10_1 t357 _ ?side1 ?side2 A9.out).mono ?_
                (case side1 => repeat ((exact (Kd.C_below HR0_0.out HB.out))))
                (case side2 => exact HC0_0.out)
                rintro e w14 ⟨rfl, hb⟩
                refine ⟨_, rfl, ?_⟩
                replace HO_3 := rb_ HO_3 hb; replace BK355 := kb_ BK355 hb; replace HB := hb_ HB hb
                (try clear hb)
                (try clear hb2)
                (try clear hk)
                (try clear hi)
                refine hK.out _ _ ⟨(blk_cell BK355.out 0).trans rfl, (blk_cell BK355.out 1).trans rfl, (blk_cell BK355.out 2).trans rfl, bc_ HB.out hw358_0⟩ (fun hHeld => ?_)
                clear hK K
                refine nm_ 18 (h := ?_)
                refine pa_ 6 19 (bm 11 0x7f) HT_ (h := ?_)
                refine take_ (i := 7) (N := some 20) (v := ?_) (a' := ?_) (bm 11 0xff) rfl rfl (take_ofW HT_.out HW_.out (by kernel_rfl)) (fun _ _ _ h => h) (Or.inl ⟨by rfl, ?_⟩) hHeld ?_ ?_
                rotate_left
                · rintro w' ⟨s0, s1, s2, s3⟩
                  go_simp
                  with_reducible rfl
                rotate_left
                · simp only [Act.put, List.setIfInBounds_toArray, List.set_cons_zero, List.set_cons_succ, i64_w, i32_w]
                  rfl
                refine one_ (i := 8) (N := some 21) (bm 11 0x1ff) rfl rfl (one_of HT_.out (by kernel_rfl)) (by decide) (fun K hK => ?_)
                refine value_ (w1 := ?_) (v := ?_) (by rfl) rfl ?_ ?_
                rotate_left 2
                · go_simp
                  constructor
                  · rfl
                  · rfl
                refine hK.out _ _ ⟨(blk_cell (blk_alloc BK355.out _) 0).trans rfl, (blk_cell (blk_alloc BK355.out _) 1).trans rfl, (blk_cell (blk_alloc BK355.out _) 2).trans rfl, (World.cell?_alloc_lt _ _ _ (World.block_lt_of_cell? _ _ ((bc_ HB.out hw358_0)))).trans ((bc_ HB.out hw358_0))⟩ (fun hHeld => ?_)
                clear hK K
                refine nm_ 21 (h := ?_)
                refine one_ (i := 9) (N := some 22) (bm 11 0x3ff) rfl rfl (one_of HT_.out (by kernel_rfl)) (by decide) (fun K hK => ?_)
                refine Kd.R_append_step (Kd.int .i64) (w0 := w) w.heap.size (by rfl) (.tmp 13) (.tmp 21) 22 3 (.int .i64 0) 8 rfl Try.underlying22 info3 rfl (by decide) (by omega) u3 x3_1 (rd l0_0 t357) [.int .i64 (rd l0_0 t357)] (fun _ => True) (fun _ => False) rfl rfl ?aP (fun _ hk => hk.elim) ?aF ?aO ?aB ?aS ?aL ?_
                (case aP => exact rfl)
                (case aB => exact HB.out)
                (case aF => exact (fun _ _ => trivial))
                (case aO => exact HO_3.out)
                (case aS => exact (below_size HB.out))
                (case aL => have := LMc12.out; omega)
                intro v360 w15 ho hb hg hat
                rw [← Ny359.out] at ho
                have n0_ := Aside0.mk (blk_grown BK355.out hg (Kd.R_ne HO_3.out BK355.out (by decide)))
                have n1_ := Aside0.mk (hb)
                have n2_ := Aside0.mk (ho)
                clear BK355 HB HO_3; have BK355 := n0_; have HB := n1_; have HO361 := n2_; clear n0_ n1_ n2_
                clear ho hb hg hat
                refine hK.out _ _ ⟨(blk_cell BK355.out 0).trans rfl, (blk_cell BK355.out 1).trans rfl, (blk_cell BK355.out 2).trans rfl, bc_ HB.out hw358_0⟩ (fun hHeld => ?_)
                clear hK K
                refine nm_ 22 (h := ?_)
                refine pa_ 10 3 (bm 11 0x7ff) HT_ (h := ?_)
                refine done_ (done_of HT_.out (by kernel_rfl)) ?_
                try go_wp2
                go_roundg k1
                case measure => have := HK1.out; omega
                case rel => exact ⟨(y359), (wrap64 (x10_1 + 1)), (by rfl), H', ⟨by have := HK1.out; omega⟩, ⟨HO361.out⟩, ⟨BK355.out⟩, ⟨HB.out⟩⟩
              · rw [if_neg c12] at H
                exact absurd H (by simp)
            · rw [if_neg c11] at H
              exact absurd H (by simp)
          · rw [if_neg c10] at H
            exact absurd H (by simp)
        · rw [if_neg c8] at H
          have c8b0 : decide (x10_1 < a0_2) = false := decide_eq_false c8
          clear c8
          obtain rfl := Option.some.inj H
          go_wp2
          go_ret
          exact ⟨_, by rfl, by exact HO_3.out, by repeat ((with_reducible (exact HB.out)))⟩
  · replace c3 := Bool.eq_false_iff.mpr c3
    subst c3
    have H1 : (some ([] : List Int)) = some r := by rw [if_neg (show ¬ (false = true) by decide)] at H; exact H
    clear H
    have H := H1
    clear H1
    obtain rfl := Option.some.inj H
    go_enter Try.func16, Try.ntmps16
    go_wp2_with (first | ((with_reducible refine gate_dst (N := 1) rfl ?_); refine box_event ?hg (N := 1) ?hd (cs := #[.slice A0_0 l0_0.length c0_0, .int .i64 a0_1, .int .i64 a0_2]) (t := 24) ?hr ?_; (case hd => rfl); (case hg => rfl); (case hr => (go_simp; done)); intro gb355 hg w16 hbox hb; have n1_ := Aside0.mk (hbox); have n2_ := Aside0.mk ((by rw [hg]; exact (below_size HB.out) : w.heap.size ≤ gb355)); have n3_ := Aside0.mk ((by rw [hg]; exact (below_size HB.out) : w.heap.size ≤ gb355)); have BK355 := n1_; have GW355 := n2_; have GE355 := n3_; clear n1_ n2_ n3_; replace HB := hb_ HB hb; clear hb hbox hg; obtain ⟨_, _, _, _, _, _⟩ := bk3_ BK355.out) | ((with_reducible refine gate_callee (f := 17) rfl ?_); refine goesL_ (some 6) rfl rfl Try.func17 (by kernel_rfl) rfl #[.agg #[.slice A0_0 l0_0.length c0_0, .int .i64 a0_1, .int .i64 a0_2]] rfl (by (try simp only [List.map_toArray, List.map_cons, List.map_nil]); rfl) ?_; (with_reducible refine (ring_Right.calls _ _ l0_0 a0_1 a0_2 false _ ?side1 ?side2 A2.out).mono ?_); (case side1 => repeat ((exact (Kd.C_below HR0_0.out HB.out)))); (case side2 => exact HC0_0.out); rintro e w18 ⟨rfl, hb⟩; refine ⟨_, rfl, ?_⟩; replace BK355 := kb_ BK355 hb; replace HB := hb_ HB hb; (try clear hb); (try clear hb2); (try clear hk); (try clear hi)))
    go_ret
    exact ⟨_, by rfl, by (exact Kd.R_nil _ _ _ _ _), by repeat ((with_reducible (exact HB.out)))⟩

/-! ### remontoirlaw18_As: function 35 -/
def remontoirlaw18_As.l0 : Nat → List (S76) → List (S63) → Int → Option ((List (S63)))
  | 0, _, _, _ => none
  | k + 1, x0, x3, x4 => if x4 < (x0.length : Int) then (if 0 ≤ x4 then ((ring_List.f k ((rd_T76 x0 x4).f1.f0) ((rd_T76 x0 x4).f1.f1) ((rd_T76 x0 x4).f1.f2)).bind fun t364 => ((ring_List.f k ((rd_T76 x0 x4).f2.f0) ((rd_T76 x0 x4).f2.f1) ((rd_T76 x0 x4).f2.f2)).bind fun t368 => (if x3.length < 1954687338268 then (remontoirlaw18_As.l0 k x0 (x3 ++ [(⟨(⟨(rd_T76 x0 x4).f0.f0, (rd_T76 x0 x4).f0.f1, (rd_T76 x0 x4).f0.f2⟩ : S51), t364, t368⟩ : S63)]) (wrap64 (x4 + 1))) else (none)))) else (none)) else (some x3)
def remontoirlaw18_As.f (k : Nat) (l0 : List (S76)) : Option ((List (S63))) := remontoirlaw18_As.l0 k l0 ([] : List (S63)) 0
theorem remontoirlaw18_As.mono_l : ∀ k, (∀ y0 y1 y2, LeO (remontoirlaw18_As.l0 k y0 y1 y2) (remontoirlaw18_As.l0 (k + 1) y0 y1 y2))
  | 0 => fun _ _ _ r h => by simp [remontoirlaw18_As.l0] at h
  | k + 1 => by
    have ih0 := remontoirlaw18_As.mono_l k
    · intro y0 y1 y2
      unfold remontoirlaw18_As.l0
      repeat' first | (with_reducible exact ih0 _ _ _) | (with_reducible exact ring_List.mono _ _ _ _) | (with_reducible exact LeO.refl _) | (with_reducible refine LeO.ite ?_ ?_) | (with_reducible refine LeO.bind ?_ (fun _ => ?_))
theorem remontoirlaw18_As.mono : ∀ a0 k, LeO (remontoirlaw18_As.f k a0) (remontoirlaw18_As.f (k + 1) a0) := by
  intro a0 k
  have ih0 := remontoirlaw18_As.mono_l k
  unfold remontoirlaw18_As.f
  repeat' (with_reducible exact ih0 _ _ _)
def remontoirlaw18_As.T5 : Bool × List (List Nat × List Nat) := (true, [([], []), ([], []), ([], []), ([1, 2], [1, 2]), ([3], [3]), ([4], [4]), ([], []), ([], []), ([6, 7], [6, 7]), ([8], [8]), ([9], [9]), ([10], [10]), ([], []), ([], []), ([12, 13], [12, 13]), ([14], [14]), ([15], [15]), ([16, 11], [16]), ([5, 11, 17], [5, 11, 17]), ([18], [18]), ([0, 19, 17], [0, 19]), ([20, 20, 0, 1, 2, 3, 4, 5, 6, 7, 8, 9, 10, 11, 12, 13, 14, 15, 16, 17, 18, 19, 20], [0, 20])])
def remontoirlaw18_As.B5 : List Nat := [0, 0, 0, 6, 14, 30, 0, 0, 192, 448, 960, 1984, 0, 0, 12288, 28672, 61440, 131008, 262142, 524286, 1048575, 2097151]
theorem remontoirlaw18_As.tab5 : rtab .any (opsOf Try.f35 5) = remontoirlaw18_As.T5 := by kernel_rfl
theorem remontoirlaw18_As.bits5 : waitsOk remontoirlaw18_As.T5.2 remontoirlaw18_As.B5 = true := by kernel_rfl
set_option maxHeartbeats 8000000 in
set_option maxRecDepth 100000 in
theorem remontoirlaw18_As.calls (k : Nat) (A0 : Option Addr) (c0 : Nat) (l0 : List (S76)) (r : List (S63)) (w : World) (hr0 : Kd.C k76 w A0 l0.length l0) (hc0 : l0.length ≤ c0) (h : remontoirlaw18_As.f k l0 = some r) :
    Calls Try.prog 35 #[.slice A0 l0.length c0] w fun e w' => ∃ v0_ : Value, e = .returned (v0_) ∧ Kd.S k63 63 w' w.heap.size (fun _ => True) v0_ r ∧ Below w.heap.size w w' := by
  have hu51 := Try.underlying51
  have hu24 := Try.underlying24
  have hu63 := Try.underlying63
  have HR0 := Aside0.mk hr0
  have HC0 := Aside0.mk hc0
  clear hr0 hc0
  have HB := Aside0.mk (Below.refl w.heap.size w)
  have H : (remontoirlaw18_As.l0 k l0 ([] : List (S63)) 0) = some r := h
  clear h
  have H' := Aside0.mk H
  clear H
  go_enter Try.func35, Try.ntmps35
  go_wp2
  go_loopg [3, 4] k (fun kq v3 v4 w' => ∃ (x3_1 : List (S63)) (x4_1 : Int), v4 = .int .i64 x4_1 ∧ Aside0 (remontoirlaw18_As.l0 kq l0 x3_1 x4_1 = some r) ∧ Aside0 (kq ≤ k) ∧ Aside0 (Kd.S k63 63 w' w.heap.size (fun _ => True) v3 x3_1) ∧ Aside0 (Below w.heap.size w w'))
  case atStart => exact ⟨(([] : List (S63))), (0), (by rfl), H', ⟨Nat.le_refl _⟩, ⟨by (exact Kd.S_nil _ _ _ _ _)⟩, ⟨HB.out⟩⟩
  case round =>
    clear H'
    obtain ⟨x3_1, x4_1, rfl, HA, HK1, HO_3, HB⟩ := hrel
    cases gk with
    | zero => exact absurd HA.out (by simp [remontoirlaw18_As.l0])
    | succ k1 =>
      have H := HA.out
      clear HA
      simp only [remontoirlaw18_As.l0] at H
      by_cases c2 : x4_1 < (l0.length : Int)
      · rw [if_pos c2] at H
        have c2b0 : decide (x4_1 < (l0.length : Int)) = true := decide_eq_true c2
        clear c2
        by_cases c3 : 0 ≤ x4_1
        · rw [if_pos c3] at H
          have c3b0 : decide (0 ≤ x4_1) = true := decide_eq_true c3
          clear c3
          replace H := Option.bind_eq_some_iff.mp H
          obtain ⟨t364, A40, H⟩ := H
          replace H : ((ring_List.f k1 ((rd_T76 l0 x4_1).f2.f0) ((rd_T76 l0 x4_1).f2.f1) ((rd_T76 l0 x4_1).f2.f2)).bind fun t368 => (if x3_1.length < 1954687338268 then (remontoirlaw18_As.l0 k1 l0 (x3_1 ++ [(⟨(⟨(rd_T76 l0 x4_1).f0.f0, (rd_T76 l0 x4_1).f0.f1, (rd_T76 l0 x4_1).f0.f2⟩ : S51), t364, t368⟩ : S63)]) (wrap64 (x4_1 + 1))) else (none))) = some r := H
          have A4 := Aside0.mk A40
          clear A40
          replace H := Option.bind_eq_some_iff.mp H
          obtain ⟨t368, A50, H⟩ := H
          replace H : (if x3_1.length < 1954687338268 then (remontoirlaw18_As.l0 k1 l0 (x3_1 ++ [(⟨(⟨(rd_T76 l0 x4_1).f0.f0, (rd_T76 l0 x4_1).f0.f1, (rd_T76 l0 x4_1).f0.f2⟩ : S51), t364, t368⟩ : S63)]) (wrap64 (x4_1 + 1))) else (none)) = some r := H
          have A5 := Aside0.mk A50
          clear A50
          by_cases c6 : x3_1.length < 1954687338268
          · rw [if_pos c6] at H
            have LMc6 := Aside0.mk c6
            clear c6
            obtain ⟨y371, hy371⟩ : ∃ y_ : List (S63), y_ = (x3_1 ++ [(⟨(⟨(rd_T76 l0 x4_1).f0.f0, (rd_T76 l0 x4_1).f0.f1, (rd_T76 l0 x4_1).f0.f2⟩ : S51), t364, t368⟩ : S63)]) := ⟨_, rfl⟩
            replace H : (remontoirlaw18_As.l0 k1 l0 y371 (wrap64 (x4_1 + 1))) = some r := by (rw [hy371]; with_reducible exact H)
            have Ny371 := Aside0.mk hy371
            clear hy371
            have H' := Aside0.mk H
            clear H
            try go_wp2
            have n0_ := Aside0.mk (Kd.S_drew HO_3.out)
            have n1_ := Aside0.mk (below_drew1 HB.out)
            clear HO_3 HB; have HO_3 := n0_; have HB := n1_; clear n0_ n1_
            have p362 : 0 ≤ (x4_1 : Int) := of_decide_eq_true (by (with_reducible assumption))
            have q362 : x4_1 < (l0.length : Int) := of_decide_eq_true (by (with_reducible assumption))
            obtain ⟨ad362, A362_3, c362_3, A362_6, c362_6, e362, hx362_0, hx362_1, hx362_2, hx362_3, hx362_4, hx362_5, hx362_6, hx362_7, hx362_8, hl362_3, hi362_3, hl362_6, hi362_6⟩ := at_T76 HR0.out x4_1 p362 q362
            have hw362_8 := hx362_8
            have hw362_7 := hx362_7
            have hw362_6 := hx362_6
            have hw362_5 := hx362_5
            have hw362_4 := hx362_4
            have hw362_3 := hx362_3
            have hw362_2 := hx362_2
            have hw362_1 := hx362_1
            have hw362_0 := hx362_0
            cases e362
            replace hx362_0 := bc_ HB.out hx362_0
            replace hx362_1 := bc_ HB.out hx362_1
            replace hx362_2 := bc_ HB.out hx362_2
            replace hx362_3 := bc_ HB.out hx362_3
            replace hx362_4 := bc_ HB.out hx362_4
            replace hx362_5 := bc_ HB.out hx362_5
            replace hx362_6 := bc_ HB.out hx362_6
            replace hx362_7 := bc_ HB.out hx362_7
            replace hx362_8 := bc_ HB.out hx362_8
            have HR362_3 := Aside0.mk hi362_3
            have HC362_3 := Aside0.mk hl362_3
            clear hi362_3 hl362_3
            have HR362_6 := Aside0.mk hi362_6
            have HC362_6 := Aside0.mk hl362_6
            clear hi362_6 hl362_6
            replace p362 := eq_true p362
            replace q362 := eq_true q362
            have p363 : 0 ≤ (x4_1 : Int) := of_decide_eq_true (by (with_reducible assumption))
            have q363 : x4_1 < (l0.length : Int) := of_decide_eq_true (by (with_reducible assumption))
            obtain ⟨ad363, A363_3, c363_3, A363_6, c363_6, e363, hx363_0, hx363_1, hx363_2, hx363_3, hx363_4, hx363_5, hx363_6, hx363_7, hx363_8, hl363_3, hi363_3, hl363_6, hi363_6⟩ := at_T76 HR0.out x4_1 p363 q363
            have hw363_8 := hx363_8
            have hw363_7 := hx363_7
            have hw363_6 := hx363_6
            have hw363_5 := hx363_5
            have hw363_4 := hx363_4
            have hw363_3 := hx363_3
            have hw363_2 := hx363_2
            have hw363_1 := hx363_1
            have hw363_0 := hx363_0
            obtain rfl : ad362 = ad363 := (by injection e363)
            replace hx363_0 := bc_ HB.out hx363_0
            replace hx363_1 := bc_ HB.out hx363_1
            replace hx363_2 := bc_ HB.out hx363_2
            replace hx363_3 := bc_ HB.out hx363_3
            replace hx363_4 := bc_ HB.out hx363_4
            replace hx363_5 := bc_ HB.out hx363_5
            replace hx363_6 := bc_ HB.out hx363_6
            replace hx363_7 := bc_ HB.out hx363_7
            replace hx363_8 := bc_ HB.out hx363_8
            have HR363_3 := Aside0.mk hi363_3
            have HC363_3 := Aside0.mk hl363_3
            clear hi363_3 hl363_3
            have HR363_6 := Aside0.mk hi363_6
            have HC363_6 := Aside0.mk hl363_6
            clear hi363_6 hl363_6
            replace p363 := eq_true p363
            replace q363 := eq_true q363
            have ea_ := Option.some.inj (hx362_3.symm.trans hx363_3)
            injection ea_ with ea_ en_ ec_
            subst ea_
            subst ec_
            clear en_
            have ea_ := Option.some.inj (hx362_6.symm.trans hx363_6)
            injection ea_ with ea_ en_ ec_
            subst ea_
            subst ec_
            clear en_
            have p367 : 0 ≤ (x4_1 : Int) := of_decide_eq_true (by (with_reducible assumption))
            have q367 : x4_1 < (l0.length : Int) := of_decide_eq_true (by (with_reducible assumption))
            obtain ⟨ad367, A367_3, c367_3, A367_6, c367_6, e367, hx367_0, hx367_1, hx367_2, hx367_3, hx367_4, hx367_5, hx367_6, hx367_7, hx367_8, hl367_3, hi367_3, hl367_6, hi367_6⟩ := at_T76 HR0.out x4_1 p367 q367
            have hw367_8 := hx367_8
            have hw367_7 := hx367_7
            have hw367_6 := hx367_6
            have hw367_5 := hx367_5
            have hw367_4 := hx367_4
            have hw367_3 := hx367_3
            have hw367_2 := hx367_2
            have hw367_1 := hx367_1
            have hw367_0 := hx367_0
            obtain rfl : ad362 = ad367 := (by injection e367)
            replace hx367_0 := bc_ HB.out hx367_0
            replace hx367_1 := bc_ HB.out hx367_1
            replace hx367_2 := bc_ HB.out hx367_2
            replace hx367_3 := bc_ HB.out hx367_3
            replace hx367_4 := bc_ HB.out hx367_4
            replace hx367_5 := bc_ HB.out hx367_5
            replace hx367_6 := bc_ HB.out hx367_6
            replace hx367_7 := bc_ HB.out hx367_7
            replace hx367_8 := bc_ HB.out hx367_8
            have HR367_3 := Aside0.mk hi367_3
            have HC367_3 := Aside0.mk hl367_3
            clear hi367_3 hl367_3
            have HR367_6 := Aside0.mk hi367_6
            have HC367_6 := Aside0.mk hl367_6
            clear hi367_6 hl367_6
            replace p367 := eq_true p367
            replace q367 := eq_true q367
            have ea_ := Option.some.inj (hx362_3.symm.trans hx367_3)
            injection ea_ with ea_ en_ ec_
            subst ea_
            subst ec_
            clear en_
            have ea_ := Option.some.inj (hx362_6.symm.trans hx367_6)
            injection ea_ with ea_ en_ ec_
            subst ea_
            subst ec_
            clear en_
            refine start_ (n := 22) (S := fun w' => hc9_ w' (ad362.add ((x4_1).toNat * 9)) (.int .i64 ((rd_T76 l0 x4_1).f0.f0)) (.int .i64 ((rd_T76 l0 x4_1).f0.f1)) (.int .i64 ((rd_T76 l0 x4_1).f0.f2)) (.slice A362_3 ((rd_T76 l0 x4_1).f1.f0).length c362_3) (.int .i64 ((rd_T76 l0 x4_1).f1.f1)) (.int .i64 ((rd_T76 l0 x4_1).f1.f2)) (.slice A362_6 ((rd_T76 l0 x4_1).f2.f0).length c362_6) (.int .i64 ((rd_T76 l0 x4_1).f2.f1)) (.int .i64 ((rd_T76 l0 x4_1).f2.f2)) (hc9_ w' (ad362.add ((x4_1).toNat * 9)) (.int .i64 ((rd_T76 l0 x4_1).f0.f0)) (.int .i64 ((rd_T76 l0 x4_1).f0.f1)) (.int .i64 ((rd_T76 l0 x4_1).f0.f2)) (.slice A362_3 ((rd_T76 l0 x4_1).f1.f0).length c362_3) (.int .i64 ((rd_T76 l0 x4_1).f1.f1)) (.int .i64 ((rd_T76 l0 x4_1).f1.f2)) (.slice A362_6 ((rd_T76 l0 x4_1).f2.f0).length c362_6) (.int .i64 ((rd_T76 l0 x4_1).f2.f1)) (.int .i64 ((rd_T76 l0 x4_1).f2.f2)) (he9_ w' (ad362.add ((x4_1).toNat * 9)) (.int .i64 ((rd_T76 l0 x4_1).f0.f0)) (.int .i64 ((rd_T76 l0 x4_1).f0.f1)) (.int .i64 ((rd_T76 l0 x4_1).f0.f2)) (.slice A362_3 ((rd_T76 l0 x4_1).f1.f0).length c362_3) (.int .i64 ((rd_T76 l0 x4_1).f1.f1)) (.int .i64 ((rd_T76 l0 x4_1).f1.f2)) (.slice A362_6 ((rd_T76 l0 x4_1).f2.f0).length c362_6) (.int .i64 ((rd_T76 l0 x4_1).f2.f1)) (.int .i64 ((rd_T76 l0 x4_1).f2.f2))))) (ds := []) #[false, false, false, false, false, false, false, false, false, false, false, false, false, false, false, false, false, false, false, false, false, false] (by kernel_rfl) rfl rfl ⟨bc_ HB.out hw362_0, bc_ HB.out hw362_1, bc_ HB.out hw362_2, bc_ HB.out hw362_3, bc_ HB.out hw362_4, bc_ HB.out hw362_5, bc_ HB.out hw362_6, bc_ HB.out hw362_7, bc_ HB.out hw362_8, bc_ HB.out hw363_0, bc_ HB.out hw363_1, bc_ HB.out hw363_2, bc_ HB.out hw363_3, bc_ HB.out hw363_4, bc_ HB.out hw363_5, bc_ HB.out hw363_6, bc_ HB.out hw363_7, bc_ HB.out hw363_8, bc_ HB.out hw367_0, bc_ HB.out hw367_1, bc_ HB.out hw367_2, bc_ HB.out hw367_3, bc_ HB.out hw367_4, bc_ HB.out hw367_5, bc_ HB.out hw367_6, bc_ HB.out hw367_7, bc_ HB.out hw367_8⟩ (fun hHeld => ?_); refine with_tabW remontoirlaw18_As.tab5 remontoirlaw18_As.bits5 (fun HT_ HW_ => ?_)
            generalize wr.drew = w7 at HO_3 HB HR362_3 HR362_6 HR363_3 HR363_6 HR367_3 HR367_6 hx362_0 hx362_1 hx362_2 hx362_3 hx362_4 hx362_5 hx362_6 hx362_7 hx362_8 hx363_0 hx363_1 hx363_2 hx363_3 hx363_4 hx363_5 hx363_6 hx363_7 hx363_8 hx367_0 hx367_1 hx367_2 hx367_3 hx367_4 hx367_5 hx367_6 hx367_7 hx367_8 hHeld ⊢
            refine pa_ 0 11 (bm 22 0x1) HT_ (h := ?_)
            refine pa_ 1 12 (bm 22 0x3) HT_ (h := ?_)
            refine pa_ 2 13 (bm 22 0x7) HT_ (h := ?_)
            refine pa_ 3 14 (bm 22 0xf) HT_ (h := ?_)
            refine pa_ 4 15 (bm 22 0x1f) HT_ (h := ?_)
            refine pa_ 6 17 (bm 22 0x5f) HT_ (h := ?_)
            refine pa_ 7 18 (bm 22 0xdf) HT_ (h := ?_)
            refine pa_ 8 19 (bm 22 0x1df) HT_ (h := ?_)
            refine pa_ 9 20 (bm 22 0x3df) HT_ (h := ?_)
            refine pa_ 12 23 (bm 22 0x13df) HT_ (h := ?_)
            refine pa_ 13 24 (bm 22 0x33df) HT_ (h := ?_)
            refine pa_ 14 25 (bm 22 0x73df) HT_ (h := ?_)
            refine pa_ 15 26 (bm 22 0xf3df) HT_ (h := ?_)
            refine take_ (i := 5) (N := some 16) (v := ?_) (a' := ?_) (bm 22 0xf3ff) rfl rfl (take_ofW HT_.out HW_.out (by kernel_rfl)) (fun _ _ _ h => h) (Or.inl ⟨by rfl, ?_⟩) hHeld ?_ ?_
            rotate_left
            · rintro w' ⟨s0, s1, s2, s3, s4, s5, s6, s7, s8, s9, s10, s11, s12, s13, s14, s15, s16, s17, s18, s19, s20, s21, s22, s23, s24, s25, s26⟩
              go_simp
              with_reducible rfl
            rotate_left
            · simp only [Act.put, List.setIfInBounds_toArray, List.set_cons_zero, List.set_cons_succ, i64_w, i32_w]
              rfl
            refine take_ (i := 10) (N := some 21) (v := ?_) (a' := ?_) (bm 22 0xf7ff) rfl rfl (take_ofW HT_.out HW_.out (by kernel_rfl)) (fun _ _ _ h => h) (Or.inl ⟨by rfl, ?_⟩) hHeld ?_ ?_
            rotate_left
            · rintro w' ⟨s0, s1, s2, s3, s4, s5, s6, s7, s8, s9, s10, s11, s12, s13, s14, s15, s16, s17, s18, s19, s20, s21, s22, s23, s24, s25, s26⟩
              go_simp
              with_reducible rfl
            rotate_left
            · simp only [Act.put, List.setIfInBounds_toArray, List.set_cons_zero, List.set_cons_succ, i64_w, i32_w]
              rfl
            refine take_ (i := 16) (N := some 27) (v := ?_) (a' := ?_) (bm 22 0x1f7ff) rfl rfl (take_ofW HT_.out HW_.out (by kernel_rfl)) (fun _ _ _ h => h) (Or.inl ⟨by rfl, ?_⟩) hHeld ?_ ?_
            rotate_left
            · rintro w' ⟨s0, s1, s2, s3, s4, s5, s6, s7, s8, s9, s10, s11, s12, s13, s14, s15, s16, s17, s18, s19, s20, s21, s22, s23, s24, s25, s26⟩
              go_simp
              with_reducible rfl
            rotate_left
            · simp only [Act.put, List.setIfInBounds_toArray, List.set_cons_zero, List.set_cons_succ, i64_w, i32_w]
              rfl
            refine one_ (i := 11) (N := some 22) (bm 22 0x1ffff) rfl rfl (one_of HT_.out (by kernel_rfl)) (by decide) (fun K hK => ?_)
            refine goes_ Try.func16 (by kernel_rfl) rfl #[.agg #[.slice A362_3 ((rd_T76 l0 x4_1).f1.f0).length c362_3, .int .i64 ((rd_T76 l0 x4_1).f1.f1), .int .i64 ((rd_T76 l0 x4_1).f1.f2)]] (by rfl) rfl rfl (by (try simp only [List.map_toArray, List.map_cons, List.map_nil]); rfl) ?_
            with_reducible refine (ring_List.calls k1 _ _ ((rd_T76 l0 x4_1).f1.f0) ((rd_T76 l0 x4_1).f1.f1) ((rd_T76 l0 x4_1).f1.f2) t364 _ ?side1 ?side2 A4.out).mono ?_
            (case side1 => repeat ((exact (Kd.C_below HR363_3.out HB.out))))
            (case side2 => exact HC363_3.out)
            rintro e w8 ⟨v365, rfl, ho0, hb⟩
            refine ⟨_, rfl, ?_⟩
            have n0_ := Aside0.mk (Kd.S_elder' HO_3.out (Kd.R_base ho0) hb)
            have n1_ := Aside0.mk (Kd.R_lower ho0 (below_size HB.out))
            clear HO_3; have HO_3 := n0_; have HO366 := n1_; clear n0_ n1_; replace HB := hb_ HB hb
            (try clear hb)
            (try clear hb2)
            (try clear hk)
            (try clear hi)
            (try clear ho0)
            refine hK.out _ _ ⟨bc_ HB.out hw362_0, bc_ HB.out hw362_1, bc_ HB.out hw362_2, bc_ HB.out hw362_3, bc_ HB.out hw362_4, bc_ HB.out hw362_5, bc_ HB.out hw362_6, bc_ HB.out hw362_7, bc_ HB.out hw362_8, bc_ HB.out hw363_0, bc_ HB.out hw363_1, bc_ HB.out hw363_2, bc_ HB.out hw363_3, bc_ HB.out hw363_4, bc_ HB.out hw363_5, bc_ HB.out hw363_6, bc_ HB.out hw363_7, bc_ HB.out hw363_8, bc_ HB.out hw367_0, bc_ HB.out hw367_1, bc_ HB.out hw367_2, bc_ HB.out hw367_3, bc_ HB.out hw367_4, bc_ HB.out hw367_5, bc_ HB.out hw367_6, bc_ HB.out hw367_7, bc_ HB.out hw367_8⟩ (fun hHeld => ?_)
            clear hK K
            refine nm_ 22 (h := ?_)
            refine one_ (i := 17) (N := some 28) (bm 22 0x3ffff) rfl rfl (one_of HT_.out (by kernel_rfl)) (by decide) (fun K hK => ?_)
            refine goes_ Try.func16 (by kernel_rfl) rfl #[.agg #[.slice A362_6 ((rd_T76 l0 x4_1).f2.f0).length c362_6, .int .i64 ((rd_T76 l0 x4_1).f2.f1), .int .i64 ((rd_T76 l0 x4_1).f2.f2)]] (by rfl) rfl rfl (by (try simp only [List.map_toArray, List.map_cons, List.map_nil]); rfl) ?_
            with_reducible refine (ring_List.calls k1 _ _ ((rd_T76 l0 x4_1).f2.f0) ((rd_T76 l0 x4_1).f2.f1) ((rd_T76 l0 x4_1).f2.f2) t368 _ ?side1 ?side2 A5.out).mono ?_
            (case side1 => repeat ((exact (Kd.C_below HR367_6.out HB.out))))
            (case side2 => exact HC367_6.out)
            rintro e w9 ⟨v369, rfl, ho0, hb⟩
            refine ⟨_, rfl, ?_⟩
            have n0_ := Aside0.mk (Kd.S_elder' HO_3.out (Kd.R_base ho0) hb)
            have n1_ := Aside0.mk (Kd.R_elder' HO366.out (Kd.R_base ho0) hb)
            have n2_ := Aside0.mk (Kd.R_lower (Kd.R_new' ho0 (Kd.R_lt HO366.out)) (below_size HB.out))
            clear HO_3 HO366; have HO_3 := n0_; have HO366 := n1_; have HO370 := n2_; clear n0_ n1_ n2_; replace HB := hb_ HB hb
            (try clear hb)
            (try clear hb2)
            (try clear hk)
            (try clear hi)
            (try clear ho0)
            obtain ⟨Ao10, co10, eo10⟩ := Kd.R_slice HO370.out
            ((subst eo10))
            obtain ⟨Ao11, co11, eo11⟩ := Kd.R_slice HO366.out
            ((subst eo11))
            refine hK.out _ _ ⟨bc_ HB.out hw362_0, bc_ HB.out hw362_1, bc_ HB.out hw362_2, bc_ HB.out hw362_3, bc_ HB.out hw362_4, bc_ HB.out hw362_5, bc_ HB.out hw362_6, bc_ HB.out hw362_7, bc_ HB.out hw362_8, bc_ HB.out hw363_0, bc_ HB.out hw363_1, bc_ HB.out hw363_2, bc_ HB.out hw363_3, bc_ HB.out hw363_4, bc_ HB.out hw363_5, bc_ HB.out hw363_6, bc_ HB.out hw363_7, bc_ HB.out hw363_8, bc_ HB.out hw367_0, bc_ HB.out hw367_1, bc_ HB.out hw367_2, bc_ HB.out hw367_3, bc_ HB.out hw367_4, bc_ HB.out hw367_5, bc_ HB.out hw367_6, bc_ HB.out hw367_7, bc_ HB.out hw367_8⟩ (fun hHeld => ?_)
            clear hK K
            refine nm_ 28 (h := ?_)
            refine pa_ 18 29 (bm 22 0x7ffff) HT_ (h := ?_)
            refine one_ (i := 19) (N := some 30) (bm 22 0xfffff) rfl rfl (one_of HT_.out (by kernel_rfl)) (by decide) (fun K hK => ?_)
            refine value_ (w1 := ?_) (v := ?_) (by rfl) rfl ?_ ?_
            rotate_left 2
            · go_simp
              constructor
              · rfl
              · rfl
            refine hK.out _ _ ⟨(World.cell?_alloc_lt _ _ _ (World.block_lt_of_cell? _ _ ((bc_ HB.out hw362_0)))).trans ((bc_ HB.out hw362_0)), (World.cell?_alloc_lt _ _ _ (World.block_lt_of_cell? _ _ ((bc_ HB.out hw362_1)))).trans ((bc_ HB.out hw362_1)), (World.cell?_alloc_lt _ _ _ (World.block_lt_of_cell? _ _ ((bc_ HB.out hw362_2)))).trans ((bc_ HB.out hw362_2)), (World.cell?_alloc_lt _ _ _ (World.block_lt_of_cell? _ _ ((bc_ HB.out hw362_3)))).trans ((bc_ HB.out hw362_3)), (World.cell?_alloc_lt _ _ _ (World.block_lt_of_cell? _ _ ((bc_ HB.out hw362_4)))).trans ((bc_ HB.out hw362_4)), (World.cell?_alloc_lt _ _ _ (World.block_lt_of_cell? _ _ ((bc_ HB.out hw362_5)))).trans ((bc_ HB.out hw362_5)), (World.cell?_alloc_lt _ _ _ (World.block_lt_of_cell? _ _ ((bc_ HB.out hw362_6)))).trans ((bc_ HB.out hw362_6)), (World.cell?_alloc_lt _ _ _ (World.block_lt_of_cell? _ _ ((bc_ HB.out hw362_7)))).trans ((bc_ HB.out hw362_7)), (World.cell?_alloc_lt _ _ _ (World.block_lt_of_cell? _ _ ((bc_ HB.out hw362_8)))).trans ((bc_ HB.out hw362_8)), (World.cell?_alloc_lt _ _ _ (World.block_lt_of_cell? _ _ ((bc_ HB.out hw363_0)))).trans ((bc_ HB.out hw363_0)), (World.cell?_alloc_lt _ _ _ (World.block_lt_of_cell? _ _ ((bc_ HB.out hw363_1)))).trans ((bc_ HB.out hw363_1)), (World.cell?_alloc_lt _ _ _ (World.block_lt_of_cell? _ _ ((bc_ HB.out hw363_2)))).trans ((bc_ HB.out hw363_2)), (World.cell?_alloc_lt _ _ _ (World.block_lt_of_cell? _ _ ((bc_ HB.out hw363_3)))).trans ((bc_ HB.out hw363_3)), (World.cell?_alloc_lt _ _ _ (World.block_lt_of_cell? _ _ ((bc_ HB.out hw363_4)))).trans ((bc_ HB.out hw363_4)), (World.cell?_alloc_lt _ _ _ (World.block_lt_of_cell? _ _ ((bc_ HB.out hw363_5)))).trans ((bc_ HB.out hw363_5)), (World.cell?_alloc_lt _ _ _ (World.block_lt_of_cell? _ _ ((bc_ HB.out hw363_6)))).trans ((bc_ HB.out hw363_6)), (World.cell?_alloc_lt _ _ _ (World.block_lt_of_cell? _ _ ((bc_ HB.out hw363_7)))).trans ((bc_ HB.out hw363_7)), (World.cell?_alloc_lt _ _ _ (World.block_lt_of_cell? _ _ ((bc_ HB.out hw363_8)))).trans ((bc_ HB.out hw363_8)), (World.cell?_alloc_lt _ _ _ (World.block_lt_of_cell? _ _ ((bc_ HB.out hw367_0)))).trans ((bc_ HB.out hw367_0)), (World.cell?_alloc_lt _ _ _ (World.block_lt_of_cell? _ _ ((bc_ HB.out hw367_1)))).trans ((bc_ HB.out hw367_1)), (World.cell?_alloc_lt _ _ _ (World.block_lt_of_cell? _ _ ((bc_ HB.out hw367_2)))).trans ((bc_ HB.out hw367_2)), (World.cell?_alloc_lt _ _ _ (World.block_lt_of_cell? _ _ ((bc_ HB.out hw367_3)))).trans ((bc_ HB.out hw367_3)), (World.cell?_alloc_lt _ _ _ (World.block_lt_of_cell? _ _ ((bc_ HB.out hw367_4)))).trans ((bc_ HB.out hw367_4)), (World.cell?_alloc_lt _ _ _ (World.block_lt_of_cell? _ _ ((bc_ HB.out hw367_5)))).trans ((bc_ HB.out hw367_5)), (World.cell?_alloc_lt _ _ _ (World.block_lt_of_cell? _ _ ((bc_ HB.out hw367_6)))).trans ((bc_ HB.out hw367_6)), (World.cell?_alloc_lt _ _ _ (World.block_lt_of_cell? _ _ ((bc_ HB.out hw367_7)))).trans ((bc_ HB.out hw367_7)), (World.cell?_alloc_lt _ _ _ (World.block_lt_of_cell? _ _ ((bc_ HB.out hw367_8)))).trans ((bc_ HB.out hw367_8))⟩ (fun hHeld => ?_)
            clear hK K
            refine nm_ 30 (h := ?_)
            refine one_ (i := 20) (N := some 31) (bm 22 0x1fffff) rfl rfl (one_of HT_.out (by kernel_rfl)) (by decide) (fun K hK => ?_)
            refine Kd.S_append_step k63 (w0 := w) w.heap.size (by rfl) (.tmp 11) (.tmp 30) 60 63 (.agg #[(.int .i64 0), (.int .i64 0), (.int .i64 0), (.slice none 0 0), (.slice none 0 0)]) 72 rfl Try.underlying60 info63 rfl (by decide) (by omega) u3 x3_1 (⟨(⟨(rd_T76 l0 x4_1).f0.f0, (rd_T76 l0 x4_1).f0.f1, (rd_T76 l0 x4_1).f0.f2⟩ : S51), t364, t368⟩ : S63) [.int .i64 ((rd_T76 l0 x4_1).f0.f0), .int .i64 ((rd_T76 l0 x4_1).f0.f1), .int .i64 ((rd_T76 l0 x4_1).f0.f2), .slice Ao11 t364.length co11, .slice Ao10 t368.length co10] (fun _ => True) (fun k_ => some k_ = (.slice Ao11 t364.length co11 : Value).ownBlock ∨ some k_ = (.slice Ao10 t368.length co10 : Value).ownBlock) rfl rfl ?aP (fun k_ hk_ => hk_.elim (fun h_ => ((Kd.R_mono (ok' := fun k_ => ((fun _ => True)) k_ ∧ some k_ ≠ (u3 : Value).ownBlock) (Kd.R_apart' (HO366.out) (Kd.S_typed HO_3.out) (by decide)) (fun k_ hk => ⟨trivial, hk.2⟩))).1 k_ h_.symm) (fun h_ => ((Kd.R_mono (ok' := fun k_ => ((fun _ => True)) k_ ∧ some k_ ≠ (u3 : Value).ownBlock) (Kd.R_apart' (HO370.out) (Kd.S_typed HO_3.out) (by decide)) (fun k_ hk => ⟨trivial, hk.2⟩))).1 k_ h_.symm)) ?aF ?aO ?aB ?aS ?aL ?_
            (case aP => exact k63_mkM _ _ _ (⟨(⟨(rd_T76 l0 x4_1).f0.f0, (rd_T76 l0 x4_1).f0.f1, (rd_T76 l0 x4_1).f0.f2⟩ : S51), t364, t368⟩ : S63) (Kd.R_mono (Kd.R_tight rfl (Kd.R_mono (ok' := fun k_ => ((fun _ => True)) k_ ∧ some k_ ≠ (u3 : Value).ownBlock) (Kd.R_apart' (HO366.out) (Kd.S_typed HO_3.out) (by decide)) (fun k_ hk => ⟨trivial, hk.2⟩))) (fun _ h_ => Or.inl h_)) (Kd.R_mono (Kd.R_tight rfl (Kd.R_mono (ok' := fun k_ => ((fun _ => True)) k_ ∧ some k_ ≠ (u3 : Value).ownBlock) (Kd.R_apart' (HO370.out) (Kd.S_typed HO_3.out) (by decide)) (fun k_ hk => ⟨trivial, hk.2⟩))) (fun _ h_ => Or.inr (h_))))
            (case aB => exact HB.out)
            (case aF => exact (fun _ _ => trivial))
            (case aO => exact (by exact Kd.S_mono HO_3.out (fun k_ hk => ⟨trivial, fun e_ => e_.elim (fun h_ => hk.1.2 h_) (fun h_ => hk.2 h_)⟩)))
            (case aS => exact (below_size HB.out))
            (case aL => have := LMc6.out; omega)
            intro v372 w12 ho hb hg hat
            rw [← Ny371.out] at ho
            have n0_ := Aside0.mk (hb)
            have n1_ := Aside0.mk (ho)
            clear HB HO_3 HO366 HO370; have HB := n0_; have HO373 := n1_; clear n0_ n1_
            clear ho hb hg hat
            refine hK.out _ _ ⟨bc_ HB.out hw362_0, bc_ HB.out hw362_1, bc_ HB.out hw362_2, bc_ HB.out hw362_3, bc_ HB.out hw362_4, bc_ HB.out hw362_5, bc_ HB.out hw362_6, bc_ HB.out hw362_7, bc_ HB.out hw362_8, bc_ HB.out hw363_0, bc_ HB.out hw363_1, bc_ HB.out hw363_2, bc_ HB.out hw363_3, bc_ HB.out hw363_4, bc_ HB.out hw363_5, bc_ HB.out hw363_6, bc_ HB.out hw363_7, bc_ HB.out hw363_8, bc_ HB.out hw367_0, bc_ HB.out hw367_1, bc_ HB.out hw367_2, bc_ HB.out hw367_3, bc_ HB.out hw367_4, bc_ HB.out hw367_5, bc_ HB.out hw367_6, bc_ HB.out hw367_7, bc_ HB.out hw367_8⟩ (fun hHeld => ?_)
            clear hK K
            refine nm_ 31 (h := ?_)
            refine pa_ 21 3 (bm 22 0x3fffff) HT_ (h := ?_)
            refine done_ (done_of HT_.out (by kernel_rfl)) ?_
            try go_wp2
            go_roundg k1
            case measure => have := HK1.out; omega
            case rel => exact ⟨(y371), (wrap64 (x4_1 + 1)), (by rfl), H', ⟨by have := HK1.out; omega⟩, ⟨HO373.out⟩, ⟨HB.out⟩⟩
          · rw [if_neg c6] at H
            exact absurd H (by simp)
        · rw [if_neg c3] at H
          exact absurd H (by simp)
      · rw [if_neg c2] at H
        have c2b0 : decide (x4_1 < (l0.length : Int)) = false := decide_eq_false c2
        clear c2
        obtain rfl := Option.some.inj H
        go_wp2
        go_ret
        exact ⟨_, by rfl, by exact HO_3.out, by repeat ((with_reducible (exact HB.out)))⟩

end Go.Proofs.Yteddflcloeelhaa.FPort
