-- Written by the session (wip/tools) for this claim: functions of the program as Lean functions, and their contracts.
import Derived.Test.YteddflcloeelhaaZXShort
import Derived.Test.YteddflcloeelhaaZFDelivx0
import Derived.Test.YteddflcloeelhaaZFDelivx2
namespace Go.Proofs.Yteddflcloeelhaa.FDeliv
open Go.RowKit Go.Proofs.YteddflcloeelhaaW.PrintWords Go.Proofs.YteddflcloeelhaaW.PrintLast Go.Proofs.YteddflcloeelhaaW.PrintMore
attribute [local go_sem] max2_int min2_int max_two min_two max_three min_three max_four min_four   -- for this text's walks alone
set_option linter.unusedVariables false
set_option linter.unusedSimpArgs false

/-! ### ring_List: function 16 -/
def ring_List.l0 : Nat → List Int → Int → Int → List Int → Int → Int → Option (List Int)
  | 0, _, _, _, _, _, _ => none
  | k + 1, x3, x9, x10, x324000, x324001, x324002 => if x10 < x9 then ((ring_at.f x324000 x324001 x324002 x10).bind fun t325 => (if 0 ≤ t325 then (if t325 < (x324000.length : Int) then (if x3.length < 17592186044416 then (ring_List.l0 k (x3 ++ [rd x324000 t325]) x9 (wrap64 (x10 + 1)) x324000 x324001 x324002) else (none)) else (none)) else (none))) else (some x3)
def ring_List.f (k : Nat) (l0_0 : List Int) (a0_1 : Int) (a0_2 : Int) : Option (List Int) := (ring_Right.f l0_0 a0_1 a0_2).bind fun t324 => (if t324 = true then (ring_List.l0 k ([] : List Int) a0_2 0 l0_0 a0_1 a0_2) else (some ([] : List Int)))
theorem ring_List.mono_l : ∀ k, (∀ y0 y1 y2 y3 y4 y5, LeO (ring_List.l0 k y0 y1 y2 y3 y4 y5) (ring_List.l0 (k + 1) y0 y1 y2 y3 y4 y5))
  | 0 => fun _ _ _ _ _ _ r h => by simp [ring_List.l0] at h
  | k + 1 => by
    have ih0 := ring_List.mono_l k
    · intro y0 y1 y2 y3 y4 y5
      unfold ring_List.l0
      repeat' first | (with_reducible exact ih0 _ _ _ _ _ _) | (with_reducible exact LeO.refl _) | (with_reducible refine LeO.ite ?_ ?_) | (with_reducible refine LeO.bind ?_ (fun _ => ?_))
theorem ring_List.mono : ∀ a0 a1 a2 k, LeO (ring_List.f k a0 a1 a2) (ring_List.f (k + 1) a0 a1 a2) := by
  intro a0 a1 a2 k
  have ih0 := ring_List.mono_l k
  unfold ring_List.f
  repeat' first | (with_reducible exact ih0 _ _ _ _ _ _) | (with_reducible exact LeO.refl _) | (with_reducible refine LeO.ite ?_ ?_) | (with_reducible refine LeO.bind ?_ (fun _ => ?_))
def ring_List.T7 : Bool × List (List Nat × List Nat) := (true, [([], []), ([], []), ([1], [1]), ([], []), ([], []), ([3, 4], [3, 4]), ([2, 5], [2, 5]), ([6], [6]), ([7], [7]), ([0, 8, 5], [0, 8]), ([9, 9, 0, 1, 2, 3, 4, 5, 6, 7, 8, 9], [0, 9])])
def ring_List.B7 : List Nat := [0, 0, 2, 0, 0, 24, 62, 126, 254, 511, 1023]
theorem ring_List.tab7 : rtab .any (opsOf Try.f16 7) = ring_List.T7 := by kernel_rfl
theorem ring_List.bits7 : waitsOk ring_List.T7.2 ring_List.B7 = true := by kernel_rfl
set_option maxHeartbeats 8000000 in
set_option maxRecDepth 100000 in
theorem ring_List.calls (k : Nat) (A0_0 : Option Addr) (c0_0 : Nat) (l0_0 : List Int) (a0_1 : Int) (a0_2 : Int) (r : List Int) (w : World) (hr0_0 : Kd.C (Kd.int .i64) w A0_0 l0_0.length l0_0) (hc0_0 : l0_0.length ≤ c0_0) (h : ring_List.f k l0_0 a0_1 a0_2 = some r) :
    Calls Try.prog 16 #[.agg #[.slice A0_0 l0_0.length c0_0, .int .i64 a0_1, .int .i64 a0_2]] w fun e w' => ∃ v0_ : Value, e = .returned (v0_) ∧ Kd.R (Kd.int .i64) 3 w' w.heap.size (fun _ => True) v0_ r ∧ Below w.heap.size w w' := by
  have hu24 := Try.underlying24
  have HR0_0 := Aside0.mk hr0_0
  have HC0_0 := Aside0.mk hc0_0
  clear hr0_0 hc0_0
  have HB := Aside0.mk (Below.refl w.heap.size w)
  have H : ((ring_Right.f l0_0 a0_1 a0_2).bind fun t324 => (if t324 = true then (ring_List.l0 k ([] : List Int) a0_2 0 l0_0 a0_1 a0_2) else (some ([] : List Int)))) = some r := h
  clear h
  replace H := Option.bind_eq_some_iff.mp H
  obtain ⟨t324, A20, H⟩ := H
  replace H : (if t324 = true then (ring_List.l0 k ([] : List Int) a0_2 0 l0_0 a0_1 a0_2) else (some ([] : List Int))) = some r := H
  have A2 := Aside0.mk A20
  clear A20
  by_cases c3 : t324 = true
  · subst c3
    have H1 : (ring_List.l0 k ([] : List Int) a0_2 0 l0_0 a0_1 a0_2) = some r := by rw [if_pos rfl] at H; exact H
    clear H
    have H := H1
    clear H1
    have H' := Aside0.mk H
    clear H
    go_enter Try.func16, Try.ntmps16
    go_wp2_with (first | ((with_reducible refine gate_dst (N := 1) rfl ?_); refine box_event ?hg (N := 1) ?hd (cs := #[.slice A0_0 l0_0.length c0_0, .int .i64 a0_1, .int .i64 a0_2]) (t := 24) ?hr ?_; (case hd => rfl); (case hg => rfl); (case hr => (go_simp; done)); intro gb323 hg w4 hbox hb; have n1_ := Aside0.mk (hbox); have n2_ := Aside0.mk ((by rw [hg]; exact (below_size HB.out) : w.heap.size ≤ gb323)); have n3_ := Aside0.mk ((by rw [hg]; exact (below_size HB.out) : w.heap.size ≤ gb323)); have BK323 := n1_; have GW323 := n2_; have GE323 := n3_; clear n1_ n2_ n3_; replace HB := hb_ HB hb; clear hb hbox hg; obtain ⟨hcz5_0, hcz5_1, hcz5_2, hfz5_0, hfz5_1, hfz5_2⟩ := bk3_ BK323.out) | ((with_reducible refine gate_callee (f := 17) rfl ?_); refine goesL_ (some 6) rfl rfl Try.func17 (by kernel_rfl) rfl #[.agg #[.slice A0_0 l0_0.length c0_0, .int .i64 a0_1, .int .i64 a0_2]] rfl (by (try simp only [List.map_toArray, List.map_cons, List.map_nil]); rfl) ?_; (with_reducible refine (ring_Right.calls _ _ l0_0 a0_1 a0_2 true _ ?side1 ?side2 A2.out).mono ?_); (case side1 => repeat ((exact (Kd.C_below HR0_0.out HB.out)))); (case side2 => exact HC0_0.out); rintro e w6 ⟨rfl, hb⟩; refine ⟨_, rfl, ?_⟩; replace BK323 := kb_ BK323 hb; replace HB := hb_ HB hb; (try clear hb); (try clear hb2); (try clear hk); (try clear hi); obtain ⟨hcz7_0, hcz7_1, hcz7_2, hfz7_0, hfz7_1, hfz7_2⟩ := bk3_ BK323.out))
    go_loopg [3, 10] k (fun kq v3 v10 w' => ∃ (x3_1 : List Int) (x10_1 : Int), v10 = .int .i64 x10_1 ∧ Aside0 (ring_List.l0 kq x3_1 a0_2 x10_1 l0_0 a0_1 a0_2 = some r) ∧ Aside0 (kq ≤ k) ∧ Aside0 (Kd.R (Kd.int .i64) 3 w' w.heap.size (fun _ => True) v3 x3_1) ∧ Aside0 (w'.heap[gb323]? = some (.cells #[(.slice A0_0 l0_0.length c0_0), .int .i64 a0_1, .int .i64 a0_2] 24 (0, 0))) ∧ Aside0 (Below w.heap.size w w'))
    case atStart => exact ⟨(([] : List Int)), (0), (by rfl), H', ⟨Nat.le_refl _⟩, ⟨by (exact Kd.R_nil _ _ _ _ _)⟩, ⟨BK323.out⟩, ⟨HB.out⟩⟩
    case round =>
      clear H'
      try clear c1
      try clear p2
      try clear c3
      try clear hcz5_0
      try clear hcz5_1
      try clear hcz5_2
      try clear hcz7_0
      try clear hcz7_1
      try clear hcz7_2
      try clear hfz5_0
      try clear hfz5_1
      try clear hfz5_2
      try clear hfz7_0
      try clear hfz7_1
      try clear hfz7_2
      obtain ⟨x3_1, x10_1, rfl, HA, HK1, HO_3, BK323, HB⟩ := hrel
      cases gk with
      | zero => exact absurd HA.out (by simp [ring_List.l0])
      | succ k1 =>
        have H := HA.out
        clear HA
        simp only [ring_List.l0] at H
        by_cases c8 : x10_1 < a0_2
        · rw [if_pos c8] at H
          have c8b0 : decide (x10_1 < a0_2) = true := decide_eq_true c8
          clear c8
          replace H := Option.bind_eq_some_iff.mp H
          obtain ⟨t325, A90, H⟩ := H
          replace H : (if 0 ≤ t325 then (if t325 < (l0_0.length : Int) then (if x3_1.length < 17592186044416 then (ring_List.l0 k1 (x3_1 ++ [rd l0_0 t325]) a0_2 (wrap64 (x10_1 + 1)) l0_0 a0_1 a0_2) else (none)) else (none)) else (none)) = some r := H
          have A9 := Aside0.mk A90
          clear A90
          by_cases c10 : 0 ≤ t325
          · rw [if_pos c10] at H
            have c10b0 : decide (0 ≤ t325) = true := decide_eq_true c10
            clear c10
            by_cases c11 : t325 < (l0_0.length : Int)
            · rw [if_pos c11] at H
              have c11b0 : decide (t325 < (l0_0.length : Int)) = true := decide_eq_true c11
              clear c11
              by_cases c12 : x3_1.length < 17592186044416
              · rw [if_pos c12] at H
                have LMc12 := Aside0.mk c12
                clear c12
                obtain ⟨y327, hy327⟩ : ∃ y_ : List Int, y_ = (x3_1 ++ [rd l0_0 t325]) := ⟨_, rfl⟩
                replace H : (ring_List.l0 k1 y327 a0_2 (wrap64 (x10_1 + 1)) l0_0 a0_1 a0_2) = some r := by (rw [hy327]; with_reducible exact H)
                have Ny327 := Aside0.mk hy327
                clear hy327
                have H' := Aside0.mk H
                clear H
                try go_wp2
                have n0_ := Aside0.mk (Kd.R_drew HO_3.out)
                have n1_ := Aside0.mk (blk_drew BK323.out)
                have n2_ := Aside0.mk (below_drew1 HB.out)
                clear HO_3 BK323 HB; have HO_3 := n0_; have BK323 := n1_; have HB := n2_; clear n0_ n1_ n2_
                have p326 : 0 ≤ (t325 : Int) := of_decide_eq_true (by (with_reducible assumption))
                have q326 : t325 < (l0_0.length : Int) := of_decide_eq_true (by (with_reducible assumption))
                obtain ⟨ad326, e326, hx326_0⟩ := Kd.at_int HR0_0.out t325 p326 q326
                have hw326_0 := hx326_0
                cases e326
                replace hx326_0 := bc_ HB.out hx326_0
                replace p326 := eq_true p326
                replace q326 := eq_true q326
                refine start_ (n := 11) (S := fun w' => w'.cell? ⟨gb323, 0, none⟩ = some (.slice (some ad326) l0_0.length c0_0) ∧ w'.cell? ⟨gb323, 1, none⟩ = some (.int .i64 a0_1) ∧ w'.cell? ⟨gb323, 2, none⟩ = some (.int .i64 a0_2) ∧ w'.cell? (ad326.add (t325).toNat) = some (.int .i64 (rd l0_0 t325))) (ds := []) #[false, false, false, false, false, false, false, false, false, false, false] (by kernel_rfl) rfl rfl ⟨(blk_cell BK323.out 0).trans rfl, (blk_cell BK323.out 1).trans rfl, (blk_cell BK323.out 2).trans rfl, (bc_ HB.out hw326_0 :)⟩ (fun hHeld => ?_); refine with_tabW ring_List.tab7 ring_List.bits7 (fun HT_ HW_ => ?_)
                generalize wr.drew = w13 at HO_3 BK323 HB hx326_0 hHeld ⊢
                refine pa_ 0 13 (bm 11 0x1) HT_ (h := ?_)
                refine pa_ 1 14 (bm 11 0x3) HT_ (h := ?_)
                refine pa_ 4 17 (bm 11 0x13) HT_ (h := ?_)
                refine take_ (i := 2) (N := some 15) (v := ?_) (a' := ?_) (bm 11 0x17) rfl rfl (take_ofW HT_.out HW_.out (by kernel_rfl)) (fun _ _ _ h => h) (Or.inl ⟨by rfl, ?_⟩) hHeld ?_ ?_
                rotate_left
                · rintro w' ⟨s0, s1, s2, s3⟩
                  go_simp
                  with_reducible rfl
                rotate_left
                · simp only [Act.put, List.setIfInBounds_toArray, List.set_cons_zero, List.set_cons_succ, i64_w, i32_w]
                  rfl
                refine take_ (i := 3) (N := some 16) (v := ?_) (a' := ?_) (bm 11 0x1f) rfl rfl (take_ofW HT_.out HW_.out (by kernel_rfl)) (fun _ _ _ h => h) (Or.inl ⟨by rfl, ?_⟩) hHeld ?_ ?_
                rotate_left
                · rintro w' ⟨s0, s1, s2, s3⟩
                  go_simp
                  with_reducible rfl
                rotate_left
                · simp only [Act.put, List.setIfInBounds_toArray, List.set_cons_zero, List.set_cons_succ, i64_w, i32_w]
                  rfl
                refine one_ (i := 5) (N := some 18) (bm 11 0x3f) rfl rfl (one_of HT_.out (by kernel_rfl)) (by decide) (fun K hK => ?_)
                refine goes_ Try.func41 (by kernel_rfl) rfl #[.agg #[.slice (some ad326) l0_0.length c0_0, .int .i64 a0_1, .int .i64 a0_2], .int .i64 x10_1] (by rfl) rfl rfl (by (try simp only [List.map_toArray, List.map_cons, List.map_nil]); rfl) ?_
                with_reducible refine (ring_at.calls _ _ l0_0 a0_1 a0_2 x10_1 t325 _ ?side1 ?side2 A9.out).mono ?_
                (case side1 => repeat ((exact (Kd.C_below HR0_0.out HB.out))))
                (case side2 => exact HC0_0.out)
                rintro e w14 ⟨rfl, hb⟩
                refine ⟨_, rfl, ?_⟩
                replace HO_3 := rb_ HO_3 hb; replace BK323 := kb_ BK323 hb; replace HB := hb_ HB hb
                (try clear hb)
                (try clear hb2)
                (try clear hk)
                (try clear hi)
                refine hK.out _ _ ⟨(blk_cell BK323.out 0).trans rfl, (blk_cell BK323.out 1).trans rfl, (blk_cell BK323.out 2).trans rfl, bc_ HB.out hw326_0⟩ (fun hHeld => ?_)
                clear hK K
                refine nm_ 18 (h := ?_)
                refine pa_ 6 19 (bm 11 0x7f) HT_ (h := ?_)
                refine take_ (i := 7) (N := some 20) (v := ?_) (a' := ?_) (bm 11 0xff) rfl rfl (take_ofW HT_.out HW_.out (by kernel_rfl)) (fun _ _ _ h => h) (Or.inl ⟨by rfl, ?_⟩) hHeld ?_ ?_
                rotate_left
                · rintro w' ⟨s0, s1, s2, s3⟩
                  go_simp
                  with_reducible rfl
                rotate_left
                · simp only [Act.put, List.setIfInBounds_toArray, List.set_cons_zero, List.set_cons_succ, i64_w, i32_w]
                  rfl
                refine one_ (i := 8) (N := some 21) (bm 11 0x1ff) rfl rfl (one_of HT_.out (by kernel_rfl)) (by decide) (fun K hK => ?_)
                refine value_ (w1 := ?_) (v := ?_) (by rfl) rfl ?_ ?_
                rotate_left 2
                · go_simp
                  constructor
                  · rfl
                  · rfl
                refine hK.out _ _ ⟨(blk_cell (blk_alloc BK323.out _) 0).trans rfl, (blk_cell (blk_alloc BK323.out _) 1).trans rfl, (blk_cell (blk_alloc BK323.out _) 2).trans rfl, (World.cell?_alloc_lt _ _ _ (World.block_lt_of_cell? _ _ ((bc_ HB.out hw326_0)))).trans ((bc_ HB.out hw326_0))⟩ (fun hHeld => ?_)
                clear hK K
                refine nm_ 21 (h := ?_)
                refine one_ (i := 9) (N := some 22) (bm 11 0x3ff) rfl rfl (one_of HT_.out (by kernel_rfl)) (by decide) (fun K hK => ?_)
                refine Kd.R_append_step (Kd.int .i64) (w0 := w) w.heap.size (by rfl) (.tmp 13) (.tmp 21) 22 3 (.int .i64 0) 8 rfl Try.underlying22 info3 rfl (by decide) (by omega) u3 x3_1 (rd l0_0 t325) [.int .i64 (rd l0_0 t325)] (fun _ => True) (fun _ => False) rfl rfl ?aP (fun _ hk => hk.elim) ?aF ?aO ?aB ?aS ?aL ?_
                (case aP => exact rfl)
                (case aB => exact HB.out)
                (case aF => exact (fun _ _ => trivial))
                (case aO => exact HO_3.out)
                (case aS => exact (below_size HB.out))
                (case aL => have := LMc12.out; omega)
                intro v328 w15 ho hb hg hat
                rw [← Ny327.out] at ho
                have n0_ := Aside0.mk (blk_grown BK323.out hg (Kd.R_ne HO_3.out BK323.out (by decide)))
                have n1_ := Aside0.mk (hb)
                have n2_ := Aside0.mk (ho)
                clear BK323 HB HO_3; have BK323 := n0_; have HB := n1_; have HO329 := n2_; clear n0_ n1_ n2_
                clear ho hb hg hat
                refine hK.out _ _ ⟨(blk_cell BK323.out 0).trans rfl, (blk_cell BK323.out 1).trans rfl, (blk_cell BK323.out 2).trans rfl, bc_ HB.out hw326_0⟩ (fun hHeld => ?_)
                clear hK K
                refine nm_ 22 (h := ?_)
                refine pa_ 10 3 (bm 11 0x7ff) HT_ (h := ?_)
                refine done_ (done_of HT_.out (by kernel_rfl)) ?_
                try go_wp2
                go_roundg k1
                case measure => have := HK1.out; omega
                case rel => exact ⟨(y327), (wrap64 (x10_1 + 1)), (by rfl), H', ⟨by have := HK1.out; omega⟩, ⟨HO329.out⟩, ⟨BK323.out⟩, ⟨HB.out⟩⟩
              · rw [if_neg c12] at H
                exact absurd H (by simp)
            · rw [if_neg c11] at H
              exact absurd H (by simp)
          · rw [if_neg c10] at H
            exact absurd H (by simp)
        · rw [if_neg c8] at H
          have c8b0 : decide (x10_1 < a0_2) = false := decide_eq_false c8
          clear c8
          obtain rfl := Option.some.inj H
          go_wp2
          go_ret
          exact ⟨_, by rfl, by exact HO_3.out, by repeat ((with_reducible (exact HB.out)))⟩
  · replace c3 := Bool.eq_false_iff.mpr c3
    subst c3
    have H1 : (some ([] : List Int)) = some r := by rw [if_neg (show ¬ (false = true) by decide)] at H; exact H
    clear H
    have H := H1
    clear H1
    obtain rfl := Option.some.inj H
    go_enter Try.func16, Try.ntmps16
    go_wp2_with (first | ((with_reducible refine gate_dst (N := 1) rfl ?_); refine box_event ?hg (N := 1) ?hd (cs := #[.slice A0_0 l0_0.length c0_0, .int .i64 a0_1, .int .i64 a0_2]) (t := 24) ?hr ?_; (case hd => rfl); (case hg => rfl); (case hr => (go_simp; done)); intro gb323 hg w16 hbox hb; have n1_ := Aside0.mk (hbox); have n2_ := Aside0.mk ((by rw [hg]; exact (below_size HB.out) : w.heap.size ≤ gb323)); have n3_ := Aside0.mk ((by rw [hg]; exact (below_size HB.out) : w.heap.size ≤ gb323)); have BK323 := n1_; have GW323 := n2_; have GE323 := n3_; clear n1_ n2_ n3_; replace HB := hb_ HB hb; clear hb hbox hg; obtain ⟨_, _, _, _, _, _⟩ := bk3_ BK323.out) | ((with_reducible refine gate_callee (f := 17) rfl ?_); refine goesL_ (some 6) rfl rfl Try.func17 (by kernel_rfl) rfl #[.agg #[.slice A0_0 l0_0.length c0_0, .int .i64 a0_1, .int .i64 a0_2]] rfl (by (try simp only [List.map_toArray, List.map_cons, List.map_nil]); rfl) ?_; (with_reducible refine (ring_Right.calls _ _ l0_0 a0_1 a0_2 false _ ?side1 ?side2 A2.out).mono ?_); (case side1 => repeat ((exact (Kd.C_below HR0_0.out HB.out)))); (case side2 => exact HC0_0.out); rintro e w18 ⟨rfl, hb⟩; refine ⟨_, rfl, ?_⟩; replace BK323 := kb_ BK323 hb; replace HB := hb_ HB hb; (try clear hb); (try clear hb2); (try clear hk); (try clear hi)))
    go_ret
    exact ⟨_, by rfl, by (exact Kd.R_nil _ _ _ _ _), by repeat ((with_reducible (exact HB.out)))⟩

/-! ### remontoirlaw18_As: function 35 -/
def remontoirlaw18_As.l0 : Nat → List (S76) → List (S63) → Int → Option ((List (S63)))
  | 0, _, _, _ => none
  | k + 1, x0, x3, x4 => if x4 < (x0.length : Int) then (if 0 ≤ x4 then ((ring_List.f k ((rd_T76 x0 x4).f1.f0) ((rd_T76 x0 x4).f1.f1) ((rd_T76 x0 x4).f1.f2)).bind fun t332 => ((ring_List.f k ((rd_T76 x0 x4).f2.f0) ((rd_T76 x0 x4).f2.f1) ((rd_T76 x0 x4).f2.f2)).bind fun t336 => (if x3.length < 1954687338268 then (remontoirlaw18_As.l0 k x0 (x3 ++ [(⟨(⟨(rd_T76 x0 x4).f0.f0, (rd_T76 x0 x4).f0.f1, (rd_T76 x0 x4).f0.f2⟩ : S51), t332, t336⟩ : S63)]) (wrap64 (x4 + 1))) else (none)))) else (none)) else (some x3)
def remontoirlaw18_As.f (k : Nat) (l0 : List (S76)) : Option ((List (S63))) := remontoirlaw18_As.l0 k l0 ([] : List (S63)) 0
theorem remontoirlaw18_As.mono_l : ∀ k, (∀ y0 y1 y2, LeO (remontoirlaw18_As.l0 k y0 y1 y2) (remontoirlaw18_As.l0 (k + 1) y0 y1 y2))
  | 0 => fun _ _ _ r h => by simp [remontoirlaw18_As.l0] at h
  | k + 1 => by
    have ih0 := remontoirlaw18_As.mono_l k
    · intro y0 y1 y2
      unfold remontoirlaw18_As.l0
      repeat' first | (with_reducible exact ih0 _ _ _) | (with_reducible exact ring_List.mono _ _ _ _) | (with_reducible exact LeO.refl _) | (with_reducible refine LeO.ite ?_ ?_) | (with_reducible refine LeO.bind ?_ (fun _ => ?_))
theorem remontoirlaw18_As.mono : ∀ a0 k, LeO (remontoirlaw18_As.f k a0) (remontoirlaw18_As.f (k + 1) a0) := by
  intro a0 k
  have ih0 := remontoirlaw18_As.mono_l k
  unfold remontoirlaw18_As.f
  repeat' (with_reducible exact ih0 _ _ _)
def remontoirlaw18_As.T5 : Bool × List (List Nat × List Nat) := (true, [([], []), ([], []), ([], []), ([1, 2], [1, 2]), ([3], [3]), ([4], [4]), ([], []), ([], []), ([6, 7], [6, 7]), ([8], [8]), ([9], [9]), ([10], [10]), ([], []), ([], []), ([12, 13], [12, 13]), ([14], [14]), ([15], [15]), ([16, 11], [16]), ([5, 11, 17], [5, 11, 17]), ([18], [18]), ([0, 19, 17], [0, 19]), ([20, 20, 0, 1, 2, 3, 4, 5, 6, 7, 8, 9, 10, 11, 12, 13, 14, 15, 16, 17, 18, 19, 20], [0, 20])])
def remontoirlaw18_As.B5 : List Nat := [0, 0, 0, 6, 14, 30, 0, 0, 192, 448, 960, 1984, 0, 0, 12288, 28672, 61440, 131008, 262142, 524286, 1048575, 2097151]
theorem remontoirlaw18_As.tab5 : rtab .any (opsOf Try.f35 5) = remontoirlaw18_As.T5 := by kernel_rfl
theorem remontoirlaw18_As.bits5 : waitsOk remontoirlaw18_As.T5.2 remontoirlaw18_As.B5 = true := by kernel_rfl
set_option maxHeartbeats 8000000 in
set_option maxRecDepth 100000 in
theorem remontoirlaw18_As.calls (k : Nat) (A0 : Option Addr) (c0 : Nat) (l0 : List (S76)) (r : List (S63)) (w : World) (hr0 : Kd.C k76 w A0 l0.length l0) (hc0 : l0.length ≤ c0) (h : remontoirlaw18_As.f k l0 = some r) :
    Calls Try.prog 35 #[.slice A0 l0.length c0] w fun e w' => ∃ v0_ : Value, e = .returned (v0_) ∧ Kd.S k63 63 w' w.heap.size (fun _ => True) v0_ r ∧ Below w.heap.size w w' := by
  have hu51 := Try.underlying51
  have hu24 := Try.underlying24
  have hu63 := Try.underlying63
  have HR0 := Aside0.mk hr0
  have HC0 := Aside0.mk hc0
  clear hr0 hc0
  have HB := Aside0.mk (Below.refl w.heap.size w)
  have H : (remontoirlaw18_As.l0 k l0 ([] : List (S63)) 0) = some r := h
  clear h
  have H' := Aside0.mk H
  clear H
  go_enter Try.func35, Try.ntmps35
  go_wp2
  go_loopg [3, 4] k (fun kq v3 v4 w' => ∃ (x3_1 : List (S63)) (x4_1 : Int), v4 = .int .i64 x4_1 ∧ Aside0 (remontoirlaw18_As.l0 kq l0 x3_1 x4_1 = some r) ∧ Aside0 (kq ≤ k) ∧ Aside0 (Kd.S k63 63 w' w.heap.size (fun _ => True) v3 x3_1) ∧ Aside0 (Below w.heap.size w w'))
  case atStart => exact ⟨(([] : List (S63))), (0), (by rfl), H', ⟨Nat.le_refl _⟩, ⟨by (exact Kd.S_nil _ _ _ _ _)⟩, ⟨HB.out⟩⟩
  case round =>
    clear H'
    obtain ⟨x3_1, x4_1, rfl, HA, HK1, HO_3, HB⟩ := hrel
    cases gk with
    | zero => exact absurd HA.out (by simp [remontoirlaw18_As.l0])
    | succ k1 =>
      have H := HA.out
      clear HA
      simp only [remontoirlaw18_As.l0] at H
      by_cases c2 : x4_1 < (l0.length : Int)
      · rw [if_pos c2] at H
        have c2b0 : decide (x4_1 < (l0.length : Int)) = true := decide_eq_true c2
        clear c2
        by_cases c3 : 0 ≤ x4_1
        · rw [if_pos c3] at H
          have c3b0 : decide (0 ≤ x4_1) = true := decide_eq_true c3
          clear c3
          replace H := Option.bind_eq_some_iff.mp H
          obtain ⟨t332, A40, H⟩ := H
          replace H : ((ring_List.f k1 ((rd_T76 l0 x4_1).f2.f0) ((rd_T76 l0 x4_1).f2.f1) ((rd_T76 l0 x4_1).f2.f2)).bind fun t336 => (if x3_1.length < 1954687338268 then (remontoirlaw18_As.l0 k1 l0 (x3_1 ++ [(⟨(⟨(rd_T76 l0 x4_1).f0.f0, (rd_T76 l0 x4_1).f0.f1, (rd_T76 l0 x4_1).f0.f2⟩ : S51), t332, t336⟩ : S63)]) (wrap64 (x4_1 + 1))) else (none))) = some r := H
          have A4 := Aside0.mk A40
          clear A40
          replace H := Option.bind_eq_some_iff.mp H
          obtain ⟨t336, A50, H⟩ := H
          replace H : (if x3_1.length < 1954687338268 then (remontoirlaw18_As.l0 k1 l0 (x3_1 ++ [(⟨(⟨(rd_T76 l0 x4_1).f0.f0, (rd_T76 l0 x4_1).f0.f1, (rd_T76 l0 x4_1).f0.f2⟩ : S51), t332, t336⟩ : S63)]) (wrap64 (x4_1 + 1))) else (none)) = some r := H
          have A5 := Aside0.mk A50
          clear A50
          by_cases c6 : x3_1.length < 1954687338268
          · rw [if_pos c6] at H
            have LMc6 := Aside0.mk c6
            clear c6
            obtain ⟨y339, hy339⟩ : ∃ y_ : List (S63), y_ = (x3_1 ++ [(⟨(⟨(rd_T76 l0 x4_1).f0.f0, (rd_T76 l0 x4_1).f0.f1, (rd_T76 l0 x4_1).f0.f2⟩ : S51), t332, t336⟩ : S63)]) := ⟨_, rfl⟩
            replace H : (remontoirlaw18_As.l0 k1 l0 y339 (wrap64 (x4_1 + 1))) = some r := by (rw [hy339]; with_reducible exact H)
            have Ny339 := Aside0.mk hy339
            clear hy339
            have H' := Aside0.mk H
            clear H
            try go_wp2
            have n0_ := Aside0.mk (Kd.S_drew HO_3.out)
            have n1_ := Aside0.mk (below_drew1 HB.out)
            clear HO_3 HB; have HO_3 := n0_; have HB := n1_; clear n0_ n1_
            have p330 : 0 ≤ (x4_1 : Int) := of_decide_eq_true (by (with_reducible assumption))
            have q330 : x4_1 < (l0.length : Int) := of_decide_eq_true (by (with_reducible assumption))
            obtain ⟨ad330, A330_3, c330_3, A330_6, c330_6, e330, hx330_0, hx330_1, hx330_2, hx330_3, hx330_4, hx330_5, hx330_6, hx330_7, hx330_8, hl330_3, hi330_3, hl330_6, hi330_6⟩ := at_T76 HR0.out x4_1 p330 q330
            have hw330_8 := hx330_8
            have hw330_7 := hx330_7
            have hw330_6 := hx330_6
            have hw330_5 := hx330_5
            have hw330_4 := hx330_4
            have hw330_3 := hx330_3
            have hw330_2 := hx330_2
            have hw330_1 := hx330_1
            have hw330_0 := hx330_0
            cases e330
            replace hx330_0 := bc_ HB.out hx330_0
            replace hx330_1 := bc_ HB.out hx330_1
            replace hx330_2 := bc_ HB.out hx330_2
            replace hx330_3 := bc_ HB.out hx330_3
            replace hx330_4 := bc_ HB.out hx330_4
            replace hx330_5 := bc_ HB.out hx330_5
            replace hx330_6 := bc_ HB.out hx330_6
            replace hx330_7 := bc_ HB.out hx330_7
            replace hx330_8 := bc_ HB.out hx330_8
            have HR330_3 := Aside0.mk hi330_3
            have HC330_3 := Aside0.mk hl330_3
            clear hi330_3 hl330_3
            have HR330_6 := Aside0.mk hi330_6
            have HC330_6 := Aside0.mk hl330_6
            clear hi330_6 hl330_6
            replace p330 := eq_true p330
            replace q330 := eq_true q330
            have p331 : 0 ≤ (x4_1 : Int) := of_decide_eq_true (by (with_reducible assumption))
            have q331 : x4_1 < (l0.length : Int) := of_decide_eq_true (by (with_reducible assumption))
            obtain ⟨ad331, A331_3, c331_3, A331_6, c331_6, e331, hx331_0, hx331_1, hx331_2, hx331_3, hx331_4, hx331_5, hx331_6, hx331_7, hx331_8, hl331_3, hi331_3, hl331_6, hi331_6⟩ := at_T76 HR0.out x4_1 p331 q331
            have hw331_8 := hx331_8
            have hw331_7 := hx331_7
            have hw331_6 := hx331_6
            have hw331_5 := hx331_5
            have hw331_4 := hx331_4
            have hw331_3 := hx331_3
            have hw331_2 := hx331_2
            have hw331_1 := hx331_1
            have hw331_0 := hx331_0
            obtain rfl : ad330 = ad331 := (by injection e331)
            replace hx331_0 := bc_ HB.out hx331_0
            replace hx331_1 := bc_ HB.out hx331_1
            replace hx331_2 := bc_ HB.out hx331_2
            replace hx331_3 := bc_ HB.out hx331_3
            replace hx331_4 := bc_ HB.out hx331_4
            replace hx331_5 := bc_ HB.out hx331_5
            replace hx331_6 := bc_ HB.out hx331_6
            replace hx331_7 := bc_ HB.out hx331_7
            replace hx331_8 := bc_ HB.out hx331_8
            have HR331_3 := Aside0.mk hi331_3
            have HC331_3 := Aside0.mk hl331_3
            clear hi331_3 hl331_3
            have HR331_6 := Aside0.mk hi331_6
            have HC331_6 := Aside0.mk hl331_6
            clear hi331_6 hl331_6
            replace p331 := eq_true p331
            replace q331 := eq_true q331
            have ea_ := Option.some.inj (hx330_3.symm.trans hx331_3)
            injection ea_ with ea_ en_ ec_
            subst ea_
            subst ec_
            clear en_
            have ea_ := Option.some.inj (hx330_6.symm.trans hx331_6)
            injection ea_ with ea_ en_ ec_
            subst ea_
            subst ec_
            clear en_
            have p335 : 0 ≤ (x4_1 : Int) := of_decide_eq_true (by (with_reducible assumption))
            have q335 : x4_1 < (l0.length : Int) := of_decide_eq_true (by (with_reducible assumption))
            obtain ⟨ad335, A335_3, c335_3, A335_6, c335_6, e335, hx335_0, hx335_1, hx335_2, hx335_3, hx335_4, hx335_5, hx335_6, hx335_7, hx335_8, hl335_3, hi335_3, hl335_6, hi335_6⟩ := at_T76 HR0.out x4_1 p335 q335
            have hw335_8 := hx335_8
            have hw335_7 := hx335_7
            have hw335_6 := hx335_6
            have hw335_5 := hx335_5
            have hw335_4 := hx335_4
            have hw335_3 := hx335_3
            have hw335_2 := hx335_2
            have hw335_1 := hx335_1
            have hw335_0 := hx335_0
            obtain rfl : ad330 = ad335 := (by injection e335)
            replace hx335_0 := bc_ HB.out hx335_0
            replace hx335_1 := bc_ HB.out hx335_1
            replace hx335_2 := bc_ HB.out hx335_2
            replace hx335_3 := bc_ HB.out hx335_3
            replace hx335_4 := bc_ HB.out hx335_4
            replace hx335_5 := bc_ HB.out hx335_5
            replace hx335_6 := bc_ HB.out hx335_6
            replace hx335_7 := bc_ HB.out hx335_7
            replace hx335_8 := bc_ HB.out hx335_8
            have HR335_3 := Aside0.mk hi335_3
            have HC335_3 := Aside0.mk hl335_3
            clear hi335_3 hl335_3
            have HR335_6 := Aside0.mk hi335_6
            have HC335_6 := Aside0.mk hl335_6
            clear hi335_6 hl335_6
            replace p335 := eq_true p335
            replace q335 := eq_true q335
            have ea_ := Option.some.inj (hx330_3.symm.trans hx335_3)
            injection ea_ with ea_ en_ ec_
            subst ea_
            subst ec_
            clear en_
            have ea_ := Option.some.inj (hx330_6.symm.trans hx335_6)
            injection ea_ with ea_ en_ ec_
            subst ea_
            subst ec_
            clear en_
            refine start_ (n := 22) (S := fun w' => hc9_ w' (ad330.add ((x4_1).toNat * 9)) (.int .i64 ((rd_T76 l0 x4_1).f0.f0)) (.int .i64 ((rd_T76 l0 x4_1).f0.f1)) (.int .i64 ((rd_T76 l0 x4_1).f0.f2)) (.slice A330_3 ((rd_T76 l0 x4_1).f1.f0).length c330_3) (.int .i64 ((rd_T76 l0 x4_1).f1.f1)) (.int .i64 ((rd_T76 l0 x4_1).f1.f2)) (.slice A330_6 ((rd_T76 l0 x4_1).f2.f0).length c330_6) (.int .i64 ((rd_T76 l0 x4_1).f2.f1)) (.int .i64 ((rd_T76 l0 x4_1).f2.f2)) (hc9_ w' (ad330.add ((x4_1).toNat * 9)) (.int .i64 ((rd_T76 l0 x4_1).f0.f0)) (.int .i64 ((rd_T76 l0 x4_1).f0.f1)) (.int .i64 ((rd_T76 l0 x4_1).f0.f2)) (.slice A330_3 ((rd_T76 l0 x4_1).f1.f0).length c330_3) (.int .i64 ((rd_T76 l0 x4_1).f1.f1)) (.int .i64 ((rd_T76 l0 x4_1).f1.f2)) (.slice A330_6 ((rd_T76 l0 x4_1).f2.f0).length c330_6) (.int .i64 ((rd_T76 l0 x4_1).f2.f1)) (.int .i64 ((rd_T76 l0 x4_1).f2.f2)) (he9_ w' (ad330.add ((x4_1).toNat * 9)) (.int .i64 ((rd_T76 l0 x4_1).f0.f0)) (.int .i64 ((rd_T76 l0 x4_1).f0.f1)) (.int .i64 ((rd_T76 l0 x4_1).f0.f2)) (.slice A330_3 ((rd_T76 l0 x4_1).f1.f0).length c330_3) (.int .i64 ((rd_T76 l0 x4_1).f1.f1)) (.int .i64 ((rd_T76 l0 x4_1).f1.f2)) (.slice A330_6 ((rd_T76 l0 x4_1).f2.f0).length c330_6) (.int .i64 ((rd_T76 l0 x4_1).f2.f1)) (.int .i64 ((rd_T76 l0 x4_1).f2.f2))))) (ds := []) #[false, false, false, false, false, false, false, false, false, false, false, false, false, false, false, false, false, false, false, false, false, false] (by kernel_rfl) rfl rfl ⟨(bc_ HB.out hw330_0 :), (bc_ HB.out hw330_1 :), (bc_ HB.out hw330_2 :), (bc_ HB.out hw330_3 :), (bc_ HB.out hw330_4 :), (bc_ HB.out hw330_5 :), (bc_ HB.out hw330_6 :), (bc_ HB.out hw330_7 :), (bc_ HB.out hw330_8 :), (bc_ HB.out hw331_0 :), (bc_ HB.out hw331_1 :), (bc_ HB.out hw331_2 :), (bc_ HB.out hw331_3 :), (bc_ HB.out hw331_4 :), (bc_ HB.out hw331_5 :), (bc_ HB.out hw331_6 :), (bc_ HB.out hw331_7 :), (bc_ HB.out hw331_8 :), (bc_ HB.out hw335_0 :), (bc_ HB.out hw335_1 :), (bc_ HB.out hw335_2 :), (bc_ HB.out hw335_3 :), (bc_ HB.out hw335_4 :), (bc_ HB.out hw335_5 :), (bc_ HB.out hw335_6 :), (bc_ HB.out hw335_7 :), (bc_ HB.out hw335_8 :)⟩ (fun hHeld => ?_); refine with_tabW remontoirlaw18_As.tab5 remontoirlaw18_As.bits5 (fun HT_ HW_ => ?_)
            generalize wr.drew = w7 at HO_3 HB HR330_3 HR330_6 HR331_3 HR331_6 HR335_3 HR335_6 hx330_0 hx330_1 hx330_2 hx330_3 hx330_4 hx330_5 hx330_6 hx330_7 hx330_8 hx331_0 hx331_1 hx331_2 hx331_3 hx331_4 hx331_5 hx331_6 hx331_7 hx331_8 hx335_0 hx335_1 hx335_2 hx335_3 hx335_4 hx335_5 hx335_6 hx335_7 hx335_8 hHeld ⊢
            refine pa_ 0 11 (bm 22 0x1) HT_ (h := ?_)
            refine pa_ 1 12 (bm 22 0x3) HT_ (h := ?_)
            refine pa_ 2 13 (bm 22 0x7) HT_ (h := ?_)
            refine pa_ 3 14 (bm 22 0xf) HT_ (h := ?_)
            refine pa_ 4 15 (bm 22 0x1f) HT_ (h := ?_)
            refine pa_ 6 17 (bm 22 0x5f) HT_ (h := ?_)
            refine pa_ 7 18 (bm 22 0xdf) HT_ (h := ?_)
            refine pa_ 8 19 (bm 22 0x1df) HT_ (h := ?_)
            refine pa_ 9 20 (bm 22 0x3df) HT_ (h := ?_)
            refine pa_ 12 23 (bm 22 0x13df) HT_ (h := ?_)
            refine pa_ 13 24 (bm 22 0x33df) HT_ (h := ?_)
            refine pa_ 14 25 (bm 22 0x73df) HT_ (h := ?_)
            refine pa_ 15 26 (bm 22 0xf3df) HT_ (h := ?_)
            refine take_ (i := 5) (N := some 16) (v := ?_) (a' := ?_) (bm 22 0xf3ff) rfl rfl (take_ofW HT_.out HW_.out (by kernel_rfl)) (fun _ _ _ h => h) (Or.inl ⟨by rfl, ?_⟩) hHeld ?_ ?_
            rotate_left
            · rintro w' ⟨s0, s1, s2, s3, s4, s5, s6, s7, s8, s9, s10, s11, s12, s13, s14, s15, s16, s17, s18, s19, s20, s21, s22, s23, s24, s25, s26⟩
              go_simp
              with_reducible rfl
            rotate_left
            · simp only [Act.put, List.setIfInBounds_toArray, List.set_cons_zero, List.set_cons_succ, i64_w, i32_w]
              rfl
            refine take_ (i := 10) (N := some 21) (v := ?_) (a' := ?_) (bm 22 0xf7ff) rfl rfl (take_ofW HT_.out HW_.out (by kernel_rfl)) (fun _ _ _ h => h) (Or.inl ⟨by rfl, ?_⟩) hHeld ?_ ?_
            rotate_left
            · rintro w' ⟨s0, s1, s2, s3, s4, s5, s6, s7, s8, s9, s10, s11, s12, s13, s14, s15, s16, s17, s18, s19, s20, s21, s22, s23, s24, s25, s26⟩
              go_simp
              with_reducible rfl
            rotate_left
            · simp only [Act.put, List.setIfInBounds_toArray, List.set_cons_zero, List.set_cons_succ, i64_w, i32_w]
              rfl
            refine take_ (i := 16) (N := some 27) (v := ?_) (a' := ?_) (bm 22 0x1f7ff) rfl rfl (take_ofW HT_.out HW_.out (by kernel_rfl)) (fun _ _ _ h => h) (Or.inl ⟨by rfl, ?_⟩) hHeld ?_ ?_
            rotate_left
            · rintro w' ⟨s0, s1, s2, s3, s4, s5, s6, s7, s8, s9, s10, s11, s12, s13, s14, s15, s16, s17, s18, s19, s20, s21, s22, s23, s24, s25, s26⟩
              go_simp
              with_reducible rfl
            rotate_left
            · simp only [Act.put, List.setIfInBounds_toArray, List.set_cons_zero, List.set_cons_succ, i64_w, i32_w]
              rfl
            refine one_ (i := 11) (N := some 22) (bm 22 0x1ffff) rfl rfl (one_of HT_.out (by kernel_rfl)) (by decide) (fun K hK => ?_)
            refine goes_ Try.func16 (by kernel_rfl) rfl #[.agg #[.slice A330_3 ((rd_T76 l0 x4_1).f1.f0).length c330_3, .int .i64 ((rd_T76 l0 x4_1).f1.f1), .int .i64 ((rd_T76 l0 x4_1).f1.f2)]] (by rfl) rfl rfl (by (try simp only [List.map_toArray, List.map_cons, List.map_nil]); rfl) ?_
            with_reducible refine (ring_List.calls k1 _ _ ((rd_T76 l0 x4_1).f1.f0) ((rd_T76 l0 x4_1).f1.f1) ((rd_T76 l0 x4_1).f1.f2) t332 _ ?side1 ?side2 A4.out).mono ?_
            (case side1 => repeat ((exact (Kd.C_below HR331_3.out HB.out))))
            (case side2 => exact HC331_3.out)
            rintro e w8 ⟨v333, rfl, ho0, hb⟩
            refine ⟨_, rfl, ?_⟩
            have n0_ := Aside0.mk (Kd.S_elder' HO_3.out (Kd.R_base ho0) hb)
            have n1_ := Aside0.mk (Kd.R_lower ho0 (below_size HB.out))
            clear HO_3; have HO_3 := n0_; have HO334 := n1_; clear n0_ n1_; replace HB := hb_ HB hb
            (try clear hb)
            (try clear hb2)
            (try clear hk)
            (try clear hi)
            (try clear ho0)
            refine hK.out _ _ ⟨bc_ HB.out hw330_0, bc_ HB.out hw330_1, bc_ HB.out hw330_2, bc_ HB.out hw330_3, bc_ HB.out hw330_4, bc_ HB.out hw330_5, bc_ HB.out hw330_6, bc_ HB.out hw330_7, bc_ HB.out hw330_8, bc_ HB.out hw331_0, bc_ HB.out hw331_1, bc_ HB.out hw331_2, bc_ HB.out hw331_3, bc_ HB.out hw331_4, bc_ HB.out hw331_5, bc_ HB.out hw331_6, bc_ HB.out hw331_7, bc_ HB.out hw331_8, bc_ HB.out hw335_0, bc_ HB.out hw335_1, bc_ HB.out hw335_2, bc_ HB.out hw335_3, bc_ HB.out hw335_4, bc_ HB.out hw335_5, bc_ HB.out hw335_6, bc_ HB.out hw335_7, bc_ HB.out hw335_8⟩ (fun hHeld => ?_)
            clear hK K
            refine nm_ 22 (h := ?_)
            refine one_ (i := 17) (N := some 28) (bm 22 0x3ffff) rfl rfl (one_of HT_.out (by kernel_rfl)) (by decide) (fun K hK => ?_)
            refine goes_ Try.func16 (by kernel_rfl) rfl #[.agg #[.slice A330_6 ((rd_T76 l0 x4_1).f2.f0).length c330_6, .int .i64 ((rd_T76 l0 x4_1).f2.f1), .int .i64 ((rd_T76 l0 x4_1).f2.f2)]] (by rfl) rfl rfl (by (try simp only [List.map_toArray, List.map_cons, List.map_nil]); rfl) ?_
            with_reducible refine (ring_List.calls k1 _ _ ((rd_T76 l0 x4_1).f2.f0) ((rd_T76 l0 x4_1).f2.f1) ((rd_T76 l0 x4_1).f2.f2) t336 _ ?side1 ?side2 A5.out).mono ?_
            (case side1 => repeat ((exact (Kd.C_below HR335_6.out HB.out))))
            (case side2 => exact HC335_6.out)
            rintro e w9 ⟨v337, rfl, ho0, hb⟩
            refine ⟨_, rfl, ?_⟩
            have n0_ := Aside0.mk (Kd.S_elder' HO_3.out (Kd.R_base ho0) hb)
            have n1_ := Aside0.mk (Kd.R_elder' HO334.out (Kd.R_base ho0) hb)
            have n2_ := Aside0.mk (Kd.R_lower (Kd.R_new' ho0 (Kd.R_lt HO334.out)) (below_size HB.out))
            clear HO_3 HO334; have HO_3 := n0_; have HO334 := n1_; have HO338 := n2_; clear n0_ n1_ n2_; replace HB := hb_ HB hb
            (try clear hb)
            (try clear hb2)
            (try clear hk)
            (try clear hi)
            (try clear ho0)
            obtain ⟨Ao10, co10, eo10⟩ := Kd.R_slice HO338.out
            ((subst eo10))
            obtain ⟨Ao11, co11, eo11⟩ := Kd.R_slice HO334.out
            ((subst eo11))
            refine hK.out _ _ ⟨bc_ HB.out hw330_0, bc_ HB.out hw330_1, bc_ HB.out hw330_2, bc_ HB.out hw330_3, bc_ HB.out hw330_4, bc_ HB.out hw330_5, bc_ HB.out hw330_6, bc_ HB.out hw330_7, bc_ HB.out hw330_8, bc_ HB.out hw331_0, bc_ HB.out hw331_1, bc_ HB.out hw331_2, bc_ HB.out hw331_3, bc_ HB.out hw331_4, bc_ HB.out hw331_5, bc_ HB.out hw331_6, bc_ HB.out hw331_7, bc_ HB.out hw331_8, bc_ HB.out hw335_0, bc_ HB.out hw335_1, bc_ HB.out hw335_2, bc_ HB.out hw335_3, bc_ HB.out hw335_4, bc_ HB.out hw335_5, bc_ HB.out hw335_6, bc_ HB.out hw335_7, bc_ HB.out hw335_8⟩ (fun hHeld => ?_)
            clear hK K
            refine nm_ 28 (h := ?_)
            refine pa_ 18 29 (bm 22 0x7ffff) HT_ (h := ?_)
            refine one_ (i := 19) (N := some 30) (bm 22 0xfffff) rfl rfl (one_of HT_.out (by kernel_rfl)) (by decide) (fun K hK => ?_)
            refine value_ (w1 := ?_) (v := ?_) (by rfl) rfl ?_ ?_
            rotate_left 2
            · go_simp
              constructor
              · rfl
              · rfl
            refine hK.out _ _ ⟨(World.cell?_alloc_lt _ _ _ (World.block_lt_of_cell? _ _ ((bc_ HB.out hw330_0)))).trans ((bc_ HB.out hw330_0)), (World.cell?_alloc_lt _ _ _ (World.block_lt_of_cell? _ _ ((bc_ HB.out hw330_1)))).trans ((bc_ HB.out hw330_1)), (World.cell?_alloc_lt _ _ _ (World.block_lt_of_cell? _ _ ((bc_ HB.out hw330_2)))).trans ((bc_ HB.out hw330_2)), (World.cell?_alloc_lt _ _ _ (World.block_lt_of_cell? _ _ ((bc_ HB.out hw330_3)))).trans ((bc_ HB.out hw330_3)), (World.cell?_alloc_lt _ _ _ (World.block_lt_of_cell? _ _ ((bc_ HB.out hw330_4)))).trans ((bc_ HB.out hw330_4)), (World.cell?_alloc_lt _ _ _ (World.block_lt_of_cell? _ _ ((bc_ HB.out hw330_5)))).trans ((bc_ HB.out hw330_5)), (World.cell?_alloc_lt _ _ _ (World.block_lt_of_cell? _ _ ((bc_ HB.out hw330_6)))).trans ((bc_ HB.out hw330_6)), (World.cell?_alloc_lt _ _ _ (World.block_lt_of_cell? _ _ ((bc_ HB.out hw330_7)))).trans ((bc_ HB.out hw330_7)), (World.cell?_alloc_lt _ _ _ (World.block_lt_of_cell? _ _ ((bc_ HB.out hw330_8)))).trans ((bc_ HB.out hw330_8)), (World.cell?_alloc_lt _ _ _ (World.block_lt_of_cell? _ _ ((bc_ HB.out hw331_0)))).trans ((bc_ HB.out hw331_0)), (World.cell?_alloc_lt _ _ _ (World.block_lt_of_cell? _ _ ((bc_ HB.out hw331_1)))).trans ((bc_ HB.out hw331_1)), (World.cell?_alloc_lt _ _ _ (World.block_lt_of_cell? _ _ ((bc_ HB.out hw331_2)))).trans ((bc_ HB.out hw331_2)), (World.cell?_alloc_lt _ _ _ (World.block_lt_of_cell? _ _ ((bc_ HB.out hw331_3)))).trans ((bc_ HB.out hw331_3)), (World.cell?_alloc_lt _ _ _ (World.block_lt_of_cell? _ _ ((bc_ HB.out hw331_4)))).trans ((bc_ HB.out hw331_4)), (World.cell?_alloc_lt _ _ _ (World.block_lt_of_cell? _ _ ((bc_ HB.out hw331_5)))).trans ((bc_ HB.out hw331_5)), (World.cell?_alloc_lt _ _ _ (World.block_lt_of_cell? _ _ ((bc_ HB.out hw331_6)))).trans ((bc_ HB.out hw331_6)), (World.cell?_alloc_lt _ _ _ (World.block_lt_of_cell? _ _ ((bc_ HB.out hw331_7)))).trans ((bc_ HB.out hw331_7)), (World.cell?_alloc_lt _ _ _ (World.block_lt_of_cell? _ _ ((bc_ HB.out hw331_8)))).trans ((bc_ HB.out hw331_8)), (World.cell?_alloc_lt _ _ _ (World.block_lt_of_cell? _ _ ((bc_ HB.out hw335_0)))).trans ((bc_ HB.out hw335_0)), (World.cell?_alloc_lt _ _ _ (World.block_lt_of_cell? _ _ ((bc_ HB.out hw335_1)))).trans ((bc_ HB.out hw335_1)), (World.cell?_alloc_lt _ _ _ (World.block_lt_of_cell? _ _ ((bc_ HB.out hw335_2)))).trans ((bc_ HB.out hw335_2)), (World.cell?_alloc_lt _ _ _ (World.block_lt_of_cell? _ _ ((bc_ HB.out hw335_3)))).trans ((bc_ HB.out hw335_3)), (World.cell?_alloc_lt _ _ _ (World.block_lt_of_cell? _ _ ((bc_ HB.out hw335_4)))).trans ((bc_ HB.out hw335_4)), (World.cell?_alloc_lt _ _ _ (World.block_lt_of_cell? _ _ ((bc_ HB.out hw335_5)))).trans ((bc_ HB.out hw335_5)), (World.cell?_alloc_lt _ _ _ (World.block_lt_of_cell? _ _ ((bc_ HB.out hw335_6)))).trans ((bc_ HB.out hw335_6)), (World.cell?_alloc_lt _ _ _ (World.block_lt_of_cell? _ _ ((bc_ HB.out hw335_7)))).trans ((bc_ HB.out hw335_7)), (World.cell?_alloc_lt _ _ _ (World.block_lt_of_cell? _ _ ((bc_ HB.out hw335_8)))).trans ((bc_ HB.out hw335_8))⟩ (fun hHeld => ?_)
            clear hK K
            refine nm_ 30 (h := ?_)
            refine one_ (i := 20) (N := some 31) (bm 22 0x1fffff) rfl rfl (one_of HT_.out (by kernel_rfl)) (by decide) (fun K hK => ?_)
            refine Kd.S_append_step k63 (w0 := w) w.heap.size (by rfl) (.tmp 11) (.tmp 30) 60 63 (.agg #[(.int .i64 0), (.int .i64 0), (.int .i64 0), (.slice none 0 0), (.slice none 0 0)]) 72 rfl Try.underlying60 info63 rfl (by decide) (by omega) u3 x3_1 (⟨(⟨(rd_T76 l0 x4_1).f0.f0, (rd_T76 l0 x4_1).f0.f1, (rd_T76 l0 x4_1).f0.f2⟩ : S51), t332, t336⟩ : S63) [.int .i64 ((rd_T76 l0 x4_1).f0.f0), .int .i64 ((rd_T76 l0 x4_1).f0.f1), .int .i64 ((rd_T76 l0 x4_1).f0.f2), .slice Ao11 t332.length co11, .slice Ao10 t336.length co10] (fun _ => True) (fun k_ => some k_ = (.slice Ao11 t332.length co11 : Value).ownBlock ∨ some k_ = (.slice Ao10 t336.length co10 : Value).ownBlock) rfl rfl ?aP (fun k_ hk_ => hk_.elim (fun h_ => ((Kd.R_mono (ok' := fun k_ => ((fun _ => True)) k_ ∧ some k_ ≠ (u3 : Value).ownBlock) (Kd.R_apart' (HO334.out) (Kd.S_typed HO_3.out) (by decide)) (fun k_ hk => ⟨trivial, hk.2⟩))).1 k_ h_.symm) (fun h_ => ((Kd.R_mono (ok' := fun k_ => ((fun _ => True)) k_ ∧ some k_ ≠ (u3 : Value).ownBlock) (Kd.R_apart' (HO338.out) (Kd.S_typed HO_3.out) (by decide)) (fun k_ hk => ⟨trivial, hk.2⟩))).1 k_ h_.symm)) ?aF ?aO ?aB ?aS ?aL ?_
            (case aP => exact k63_mkM _ _ _ (⟨(⟨(rd_T76 l0 x4_1).f0.f0, (rd_T76 l0 x4_1).f0.f1, (rd_T76 l0 x4_1).f0.f2⟩ : S51), t332, t336⟩ : S63) (Kd.R_mono (Kd.R_tight rfl (Kd.R_mono (ok' := fun k_ => ((fun _ => True)) k_ ∧ some k_ ≠ (u3 : Value).ownBlock) (Kd.R_apart' (HO334.out) (Kd.S_typed HO_3.out) (by decide)) (fun k_ hk => ⟨trivial, hk.2⟩))) (fun _ h_ => Or.inl h_)) (Kd.R_mono (Kd.R_tight rfl (Kd.R_mono (ok' := fun k_ => ((fun _ => True)) k_ ∧ some k_ ≠ (u3 : Value).ownBlock) (Kd.R_apart' (HO338.out) (Kd.S_typed HO_3.out) (by decide)) (fun k_ hk => ⟨trivial, hk.2⟩))) (fun _ h_ => Or.inr (h_))))
            (case aB => exact HB.out)
            (case aF => exact (fun _ _ => trivial))
            (case aO => exact (by exact Kd.S_mono HO_3.out (fun k_ hk => ⟨trivial, fun e_ => e_.elim (fun h_ => hk.1.2 h_) (fun h_ => hk.2 h_)⟩)))
            (case aS => exact (below_size HB.out))
            (case aL => have := LMc6.out; omega)
            intro v340 w12 ho hb hg hat
            rw [← Ny339.out] at ho
            have n0_ := Aside0.mk (hb)
            have n1_ := Aside0.mk (ho)
            clear HB HO_3 HO334 HO338; have HB := n0_; have HO341 := n1_; clear n0_ n1_
            clear ho hb hg hat
            refine hK.out _ _ ⟨bc_ HB.out hw330_0, bc_ HB.out hw330_1, bc_ HB.out hw330_2, bc_ HB.out hw330_3, bc_ HB.out hw330_4, bc_ HB.out hw330_5, bc_ HB.out hw330_6, bc_ HB.out hw330_7, bc_ HB.out hw330_8, bc_ HB.out hw331_0, bc_ HB.out hw331_1, bc_ HB.out hw331_2, bc_ HB.out hw331_3, bc_ HB.out hw331_4, bc_ HB.out hw331_5, bc_ HB.out hw331_6, bc_ HB.out hw331_7, bc_ HB.out hw331_8, bc_ HB.out hw335_0, bc_ HB.out hw335_1, bc_ HB.out hw335_2, bc_ HB.out hw335_3, bc_ HB.out hw335_4, bc_ HB.out hw335_5, bc_ HB.out hw335_6, bc_ HB.out hw335_7, bc_ HB.out hw335_8⟩ (fun hHeld => ?_)
            clear hK K
            refine nm_ 31 (h := ?_)
            refine pa_ 21 3 (bm 22 0x3fffff) HT_ (h := ?_)
            refine done_ (done_of HT_.out (by kernel_rfl)) ?_
            try go_wp2
            go_roundg k1
            case measure => have := HK1.out; omega
            case rel => exact ⟨(y339), (wrap64 (x4_1 + 1)), (by rfl), H', ⟨by have := HK1.out; omega⟩, ⟨HO341.out⟩, ⟨HB.out⟩⟩
          · rw [if_neg c6] at H
            exact absurd H (by simp)
        · rw [if_neg c3] at H
          exact absurd H (by simp)
      · rw [if_neg c2] at H
        have c2b0 : decide (x4_1 < (l0.length : Int)) = false := decide_eq_false c2
        clear c2
        obtain rfl := Option.some.inj H
        go_wp2
        go_ret
        exact ⟨_, by rfl, by exact HO_3.out, by repeat ((with_reducible (exact HB.out)))⟩

end Go.Proofs.Yteddflcloeelhaa.FDeliv
