-- Written by the session (wip/tools) for this claim: functions of the program as Lean functions, and their contracts.
import Derived.Test.YteddflcloeelhaaZXShort
import Derived.Test.YteddflcloeelhaaZFDelivx0
namespace Go.Proofs.Yteddflcloeelhaa.FDeliv
open Go.RowKit Go.Proofs.YteddflcloeelhaaW.PrintWords Go.Proofs.YteddflcloeelhaaW.PrintLast Go.Proofs.YteddflcloeelhaaW.PrintMore
attribute [local go_sem] max2_int min2_int max_two min_two max_three min_three max_four min_four   -- for this text's walks alone
set_option linter.unusedVariables false
set_option linter.unusedSimpArgs false

/-! ### remontoirref18_Deliver: function 40 -/
def remontoirref18_Deliver.f (a0_0 : Int) (a0_1 : Int) (a0_2 : Int) (l0_3 : List Int) (l0_4 : List Int) : Option (Int × Int × Int × List Int × List Int) := (some (([] : List Int) : List Int)).bind fun y352 => (if y352.length + l0_4.length < 17592186044416 then ((some (y352 ++ l0_4 : List Int)).bind fun y355 => (if y355.length + l0_3.length < 17592186044416 then ((some (y355 ++ l0_3 : List Int)).bind fun y358 => (if (wrap64 ((y358.length : Int) - a0_2)) < 0 then (if 0 ≤ (y358.length : Int) then (some (a0_0, a0_1, a0_2, ([] : List Int), (y358.drop 0))) else (none)) else (if 0 ≤ (wrap64 ((y358.length : Int) - a0_2)) then (if (wrap64 ((y358.length : Int) - a0_2)) ≤ (y358.length : Int) then (some (a0_0, a0_1, a0_2, ([] : List Int), (y358.drop ((wrap64 ((y358.length : Int) - a0_2)) : Int).toNat))) else (none)) else (none)))) else (none))) else (none))
def remontoirref18_Deliver.T1 : Bool × List (List Nat × List Nat) := (true, [([], []), ([], []), ([1], [1]), ([0, 2], [0, 2]), ([], []), ([4], [4]), ([3, 5, 3], [3, 5]), ([6, 6, 0, 1, 2, 3, 4, 5, 6], [6])])
def remontoirref18_Deliver.B1 : List Nat := [0, 0, 2, 7, 0, 16, 63, 127]
theorem remontoirref18_Deliver.tab1 : rtab .any (opsOf Try.f40 1) = remontoirref18_Deliver.T1 := by kernel_rfl
theorem remontoirref18_Deliver.bits1 : waitsOk remontoirref18_Deliver.T1.2 remontoirref18_Deliver.B1 = true := by kernel_rfl
set_option maxHeartbeats 8000000 in
set_option maxRecDepth 100000 in
theorem remontoirref18_Deliver.calls (a0_0 : Int) (a0_1 : Int) (a0_2 : Int) (A0_3 : Option Addr) (c0_3 : Nat) (l0_3 : List Int) (A0_4 : Option Addr) (c0_4 : Nat) (l0_4 : List Int) (r1 : Int) (r2 : Int) (r3 : Int) (r4 : List Int) (r5 : List Int) (w : World) (hr0_3 : Kd.C (Kd.int .i64) w A0_3 l0_3.length l0_3) (hc0_3 : l0_3.length ≤ c0_3) (hr0_4 : Kd.C (Kd.int .i64) w A0_4 l0_4.length l0_4) (hc0_4 : l0_4.length ≤ c0_4) (h : remontoirref18_Deliver.f a0_0 a0_1 a0_2 l0_3 l0_4 = some (r1, r2, r3, r4, r5)) :
    Calls Try.prog 40 #[.agg #[.int .i64 a0_0, .int .i64 a0_1, .int .i64 a0_2, .slice A0_3 l0_3.length c0_3, .slice A0_4 l0_4.length c0_4]] w fun e w' => ∃ v3_ v4_ : Value, e = .returned (.agg #[.int .i64 r1, .int .i64 r2, .int .i64 r3, v3_, v4_]) ∧ Kd.R (Kd.int .i64) 3 w' w.heap.size (fun k_ => (w.heap.size ≤ k_)) v3_ r4 ∧ Kd.V (Kd.int .i64) 3 w' w.heap.size (fun k_ => (w.heap.size ≤ k_) ∧ some k_ ≠ (v3_ : Value).ownBlock) v4_ r5 ∧ Below w.heap.size w w' := by
  have hu63 := Try.underlying63
  have hu51 := Try.underlying51
  have HR0_3 := Aside0.mk hr0_3
  have HC0_3 := Aside0.mk hc0_3
  clear hr0_3 hc0_3
  have HR0_4 := Aside0.mk hr0_4
  have HC0_4 := Aside0.mk hc0_4
  clear hr0_4 hc0_4
  have HB := Aside0.mk (Below.refl w.heap.size w)
  have H : ((some (([] : List Int) : List Int)).bind fun y352 => (if y352.length + l0_4.length < 17592186044416 then ((some (y352 ++ l0_4 : List Int)).bind fun y355 => (if y355.length + l0_3.length < 17592186044416 then ((some (y355 ++ l0_3 : List Int)).bind fun y358 => (if (wrap64 ((y358.length : Int) - a0_2)) < 0 then (if 0 ≤ (y358.length : Int) then (some (a0_0, a0_1, a0_2, ([] : List Int), (y358.drop 0))) else (none)) else (if 0 ≤ (wrap64 ((y358.length : Int) - a0_2)) then (if (wrap64 ((y358.length : Int) - a0_2)) ≤ (y358.length : Int) then (some (a0_0, a0_1, a0_2, ([] : List Int), (y358.drop ((wrap64 ((y358.length : Int) - a0_2)) : Int).toNat))) else (none)) else (none)))) else (none))) else (none))) = some (r1, r2, r3, r4, r5) := h
  clear h
  obtain ⟨y352, hy352⟩ : ∃ y_ : List Int, y_ = (([] : List Int)) := ⟨_, rfl⟩
  replace H : (if y352.length + l0_4.length < 17592186044416 then ((some (y352 ++ l0_4 : List Int)).bind fun y355 => (if y355.length + l0_3.length < 17592186044416 then ((some (y355 ++ l0_3 : List Int)).bind fun y358 => (if (wrap64 ((y358.length : Int) - a0_2)) < 0 then (if 0 ≤ (y358.length : Int) then (some (a0_0, a0_1, a0_2, ([] : List Int), (y358.drop 0))) else (none)) else (if 0 ≤ (wrap64 ((y358.length : Int) - a0_2)) then (if (wrap64 ((y358.length : Int) - a0_2)) ≤ (y358.length : Int) then (some (a0_0, a0_1, a0_2, ([] : List Int), (y358.drop ((wrap64 ((y358.length : Int) - a0_2)) : Int).toNat))) else (none)) else (none)))) else (none))) else (none)) = some (r1, r2, r3, r4, r5) := by (have H2_ := (Option.bind_some _ _).symm.trans H; rw [hy352]; with_reducible exact H2_)
  have Ny352 := Aside0.mk hy352
  clear hy352
  by_cases c2 : y352.length + l0_4.length < 17592186044416
  · rw [if_pos c2] at H
    have LMc2 := Aside0.mk c2
    clear c2
    obtain ⟨y355, hy355⟩ : ∃ y_ : List Int, y_ = (y352 ++ l0_4) := ⟨_, rfl⟩
    replace H : (if y355.length + l0_3.length < 17592186044416 then ((some (y355 ++ l0_3 : List Int)).bind fun y358 => (if (wrap64 ((y358.length : Int) - a0_2)) < 0 then (if 0 ≤ (y358.length : Int) then (some (a0_0, a0_1, a0_2, ([] : List Int), (y358.drop 0))) else (none)) else (if 0 ≤ (wrap64 ((y358.length : Int) - a0_2)) then (if (wrap64 ((y358.length : Int) - a0_2)) ≤ (y358.length : Int) then (some (a0_0, a0_1, a0_2, ([] : List Int), (y358.drop ((wrap64 ((y358.length : Int) - a0_2)) : Int).toNat))) else (none)) else (none)))) else (none)) = some (r1, r2, r3, r4, r5) := by (have H2_ := (Option.bind_some _ _).symm.trans H; rw [hy355]; with_reducible exact H2_)
    have Ny355 := Aside0.mk hy355
    clear hy355
    by_cases c3 : y355.length + l0_3.length < 17592186044416
    · rw [if_pos c3] at H
      have LMc3 := Aside0.mk c3
      clear c3
      obtain ⟨y358, hy358⟩ : ∃ y_ : List Int, y_ = (y355 ++ l0_3) := ⟨_, rfl⟩
      replace H : (if (wrap64 ((y358.length : Int) - a0_2)) < 0 then (if 0 ≤ (y358.length : Int) then (some (a0_0, a0_1, a0_2, ([] : List Int), (y358.drop 0))) else (none)) else (if 0 ≤ (wrap64 ((y358.length : Int) - a0_2)) then (if (wrap64 ((y358.length : Int) - a0_2)) ≤ (y358.length : Int) then (some (a0_0, a0_1, a0_2, ([] : List Int), (y358.drop ((wrap64 ((y358.length : Int) - a0_2)) : Int).toNat))) else (none)) else (none))) = some (r1, r2, r3, r4, r5) := by (have H2_ := (Option.bind_some _ _).symm.trans H; rw [hy358]; with_reducible exact H2_)
      have Ny358 := Aside0.mk hy358
      clear hy358
      by_cases c4 : (wrap64 ((y358.length : Int) - a0_2)) < 0
      · rw [if_pos c4] at H
        have c4b0 : decide ((wrap64 ((y358.length : Int) - a0_2)) < 0) = true := decide_eq_true c4
        clear c4
        by_cases c5 : 0 ≤ (y358.length : Int)
        · rw [if_pos c5] at H
          have c5b0 := eq_true c5
          have c5b1 : decide (0 ≤ (y358.length : Int)) = true := decide_eq_true c5
          clear c5
          obtain ⟨y361, hy361⟩ : ∃ y_ : List Int, y_ = (y358.drop 0) := ⟨_, rfl⟩
          replace H : (some (a0_0, a0_1, a0_2, ([] : List Int), y361)) = some (r1, r2, r3, r4, r5) := by (rw [hy361]; with_reducible exact H)
          have Ny361 := Aside0.mk hy361
          clear hy361
          simp only [Option.some.injEq, Prod.mk.injEq] at H
          obtain ⟨rfl, rfl, rfl, rfl, rfl⟩ := H
          go_enter Try.func40, Try.ntmps40
          try go_wp2_with (first | ((with_reducible refine gate_dst (N := 1) rfl ?_); refine box_event ?hg (N := 1) ?hd (cs := #[.int .i64 a0_0, .int .i64 a0_1, .int .i64 a0_2, .slice A0_3 l0_3.length c0_3, .slice A0_4 l0_4.length c0_4]) (t := 63) ?hr ?_; (case hd => rfl); (case hg => rfl); (case hr => (go_simp; done)); intro gb350 hg w6 hbox hb; have n1_ := Aside0.mk (hbox); have n2_ := Aside0.mk ((by rw [hg]; exact (below_size HB.out) : w.heap.size ≤ gb350)); have n3_ := Aside0.mk ((by rw [hg]; exact (below_size HB.out) : w.heap.size ≤ gb350)); have BK350 := n1_; have GW350 := n2_; have GE350 := n3_; clear n1_ n2_ n3_; replace HB := hb_ HB hb; clear hb hbox hg) | ((with_reducible refine gate_dst (N := 2) rfl ?_); refine box_event ?hg (N := 2) ?hd (cs := #[.int .i64 0, .int .i64 0, .int .i64 0, .slice none 0 0, .slice none 0 0]) (t := 63) ?hr ?_; (case hd => rfl); (case hg => rfl); (case hr => (go_simp; done)); intro gb351 hg w7 hbox hb; have n2_ := Aside0.mk (hbox); have n3_ := Aside0.mk ((by rw [hg]; exact (below_size HB.out) : w.heap.size ≤ gb351)); have n4_ := Aside0.mk ((by rw [hg]; exact (below_size HB.out) : w.heap.size ≤ gb351)); have n5_ := Aside0.mk ((by rw [hg]; exact Nat.ne_of_lt (blk_lt BK350.out) : gb350 ≠ gb351)); have n6_ := Aside0.mk ((by rw [hg]; exact Nat.ne_of_gt (blk_lt BK350.out) : gb351 ≠ gb350)); have BK351 := n2_; have GW351 := n3_; have GE351 := n4_; have NB350_351 := n5_; have NB351_350 := n6_; clear n2_ n3_ n4_ n5_ n6_; replace BK350 := kb_ BK350 hb; replace HB := hb_ HB hb; clear hb hbox hg))
          have n0_ := Aside0.mk (blk_drew BK350.out)
          have n1_ := Aside0.mk (blk_drew BK351.out)
          have n2_ := Aside0.mk (below_drew1 HB.out)
          clear BK350 BK351 HB; have BK350 := n0_; have BK351 := n1_; have HB := n2_; clear n0_ n1_ n2_
          refine start_ (n := 8) (S := fun w' => w'.cell? ⟨gb350, 0, none⟩ = some (.int .i64 a0_0) ∧ w'.cell? ⟨gb350, 1, none⟩ = some (.int .i64 a0_1) ∧ w'.cell? ⟨gb350, 2, none⟩ = some (.int .i64 a0_2) ∧ w'.cell? ⟨gb350, 3, none⟩ = some (.slice A0_3 l0_3.length c0_3) ∧ w'.cell? ⟨gb350, 4, none⟩ = some (.slice A0_4 l0_4.length c0_4)) (ds := []) #[false, false, false, false, false, false, false, false] (by kernel_rfl) rfl rfl (bh5_ BK350.out) (fun hHeld => ?_); refine with_tabW remontoirref18_Deliver.tab1 remontoirref18_Deliver.bits1 (fun HT_ HW_ => ?_)
          generalize w7.drew = w8 at BK350 BK351 HB hHeld ⊢
          refine pa_ 1 6 (bm 8 0x2) HT_ (h := ?_)
          refine pa_ 4 9 (bm 8 0x12) HT_ (h := ?_)
          refine take_ (i := 2) (N := some 7) (v := ?_) (a' := ?_) (bm 8 0x16) rfl rfl (take_ofW HT_.out HW_.out (by kernel_rfl)) (fun _ _ _ h => h) (Or.inl ⟨by rfl, ?_⟩) hHeld ?_ ?_
          rotate_left
          · rintro w' ⟨s0, s1, s2, s3, s4⟩
            go_simp
            with_reducible rfl
          rotate_left
          · simp only [Act.put, List.setIfInBounds_toArray, List.set_cons_zero, List.set_cons_succ, i64_w, i32_w]
            rfl
          refine take_ (i := 5) (N := some 10) (v := ?_) (a' := ?_) (bm 8 0x36) rfl rfl (take_ofW HT_.out HW_.out (by kernel_rfl)) (fun _ _ _ h => h) (Or.inl ⟨by rfl, ?_⟩) hHeld ?_ ?_
          rotate_left
          · rintro w' ⟨s0, s1, s2, s3, s4⟩
            go_simp
            with_reducible rfl
          rotate_left
          · simp only [Act.put, List.setIfInBounds_toArray, List.set_cons_zero, List.set_cons_succ, i64_w, i32_w]
            rfl
          refine one_ (i := 0) (N := some 5) (bm 8 0x37) rfl rfl (one_of HT_.out (by kernel_rfl)) (by decide) (fun K hK => ?_)
          refine Kd.R_lit_step (Kd.int .i64) _ 3 ?hg (N := 5) ?hd (xs := ([] : List Int)) (inner := []) (ok := fun _ => True) (okp := fun _ => True) ?hr ?hp (fun _ hk => hk) trivial (Below.refl _ _) (Nat.le_refl _) (by simp) ?_; (case hd => rfl); (case hg => rfl); (case hr => (go_simp; done)); (case hp => exact (Reps.none _ _))
          intro v353 w9 ho10 hb hg_ hnew_
          clear hg_ hnew_
          ((rw [← Ny352.out] at ho10))
          have n0_ := Aside0.mk (Kd.R_lower (Kd.R_newM (M := fun k_ => (w.heap.size ≤ k_)) ho10 (below_size HB.out) (fun k_ h_ => h_)) (below_size HB.out))
          have HO354 := n0_; clear n0_; replace BK350 := kb_ BK350 hb; replace BK351 := kb_ BK351 hb; replace HB := hb_ HB hb
          clear hb ho10
          refine hK.out _ _ (bh5_ BK350.out) (fun hHeld => ?_)
          clear hK K
          refine nm_ 5 (h := ?_)
          refine one_ (i := 3) (N := some 8) (bm 8 0x3f) rfl rfl (one_of HT_.out (by kernel_rfl)) (by decide) (fun K hK => ?_)
          refine Kd.R_append_rows_step (Kd.int .i64) (w0 := w) w.heap.size (by rfl) (.tmp 5) (.tmp 7) 22 3 (.int .i64 0) 8 rfl Try.underlying22 info3 rfl (by decide) (by omega) v353 y352 l0_4 _ _ _ (fun k_ => (w.heap.size ≤ k_)) (fun _ => False) rfl rfl ?aO ?aR (fun _ _ h => h) (fun _ h => h.elim) ?aF ?aB ?aS ?aL ?_
          (case aR => repeat ((exact (Kd.C_below HR0_4.out HB.out))))
          (case aB => exact HB.out)
          (case aF => exact (fun k_ hk => (Nat.le_trans (below_size HB.out) hk)))
          (case aO => exact (by exact Kd.R_mono HO354.out (fun _ hk => hk.1)))
          (case aS => exact (below_size HB.out))
          (case aL => have := LMc2.out; omega)
          intro v356 w11 ho hb hg hat
          rw [← Ny355.out] at ho
          have n0_ := Aside0.mk (blk_grown BK350.out hg (Kd.R_ne HO354.out BK350.out (by decide)))
          have n1_ := Aside0.mk (blk_grown BK351.out hg (Kd.R_ne HO354.out BK351.out (by decide)))
          have n2_ := Aside0.mk (hb)
          have n3_ := Aside0.mk (ho)
          clear BK350 BK351 HB HO354; have BK350 := n0_; have BK351 := n1_; have HB := n2_; have HO357 := n3_; clear n0_ n1_ n2_ n3_
          clear ho hb hg hat
          refine hK.out _ _ (bh5_ BK350.out) (fun hHeld => ?_)
          clear hK K
          refine nm_ 8 (h := ?_)
          refine one_ (i := 6) (N := some 11) (bm 8 0x7f) rfl rfl (one_of HT_.out (by kernel_rfl)) (by decide) (fun K hK => ?_)
          refine Kd.R_append_rows_step (Kd.int .i64) (w0 := w) w.heap.size (by rfl) (.tmp 8) (.tmp 10) 22 3 (.int .i64 0) 8 rfl Try.underlying22 info3 rfl (by decide) (by omega) v356 y355 l0_3 _ _ _ (fun k_ => (w.heap.size ≤ k_)) (fun _ => False) rfl rfl ?aO ?aR (fun _ _ h => h) (fun _ h => h.elim) ?aF ?aB ?aS ?aL ?_
          (case aR => repeat ((exact (Kd.C_below HR0_3.out HB.out))))
          (case aB => exact HB.out)
          (case aF => exact (fun k_ hk => (Nat.le_trans (below_size HB.out) hk)))
          (case aO => exact HO357.out)
          (case aS => exact (below_size HB.out))
          (case aL => have := LMc3.out; omega)
          intro v359 w12 ho hb hg hat
          rw [← Ny358.out] at ho
          have n0_ := Aside0.mk (blk_grown BK350.out hg (Kd.R_ne HO357.out BK350.out (by decide)))
          have n1_ := Aside0.mk (blk_grown BK351.out hg (Kd.R_ne HO357.out BK351.out (by decide)))
          have n2_ := Aside0.mk (hb)
          have n3_ := Aside0.mk (ho)
          clear BK350 BK351 HB HO357; have BK350 := n0_; have BK351 := n1_; have HB := n2_; have HO360 := n3_; clear n0_ n1_ n2_ n3_
          clear ho hb hg hat
          refine hK.out _ _ (bh5_ BK350.out) (fun hHeld => ?_)
          clear hK K
          refine nm_ 11 (h := ?_)
          refine pa_ 7 3 (bm 8 0xff) HT_ (h := ?_)
          refine done_ (done_of HT_.out (by kernel_rfl)) ?_
          obtain ⟨Ao13, co13, eo13⟩ := Kd.R_slice HO360.out
          subst eo13
          have hnb14 := NB350_351.out
          have hnc14 := NB351_350.out
          obtain ⟨_, _, _, _, _, _, _, _, _, _⟩ := bk5_ BK350.out
          try go_wp2
          have n0_ := Aside0.mk (Kd.R_drew HO360.out)
          have n1_ := Aside0.mk (blk_drew BK350.out)
          have n2_ := Aside0.mk (blk_drew BK351.out)
          have n3_ := Aside0.mk (below_drew1 HB.out)
          clear HO360 BK350 BK351 HB; have HO360 := n0_; have BK350 := n1_; have BK351 := n2_; have HB := n3_; clear n0_ n1_ n2_ n3_
          have q17 : (0 : Int) ≤ ((y358.length : Int) : Int) := of_decide_eq_true (by (with_reducible assumption))
          obtain ⟨i017, hi017, _, hsz17, _⟩ := info_parts info3
          have hroom17 : y358.length ≤ co13 := (Kd.R_reads' HO360.out).2.1
          have hC17 : Kd.F (Kd.int .i64) _ _ Ao13 y358.length y358 := (Kd.V_at (base := w.heap.size) (Kd.R_V (Kd.R_types (Kd.R_types (HO360.out) BK350.out (by decide)) BK351.out (by decide)))).2.2
          have hcut17 := cut_from (P := Try.prog) 22 3 .i64 Try.underlying22 hi017 1 hsz17 Ao13 y358.length co13 0 (by omega) q17
          have hr17 := Kd.F_cut (m := (0 : Int).toNat) (c := co13) hC17 (by omega) hroom17
          obtain ⟨A17, hA17⟩ : ∃ A1, A1 = (if co13 = (0 : Int).toNat then Ao13 else (Ao13 : Option Addr).map (·.add ((0 : Int).toNat * 1))) := ⟨_, rfl⟩
          obtain ⟨c17, hc17⟩ : ∃ c1, c1 = co13 - (0 : Int).toNat := ⟨_, rfl⟩
          have hy17 : y361.length = y358.length - (0 : Int).toNat := (by rw [Ny361.out, List.length_drop] <;> omega)
          rw [show (y358).drop (0 : Int).toNat = y361 from Ny361.out.symm] at hr17
          replace hr17 : Kd.F (Kd.int .i64) _ _ A17 y361.length y361 := (by rw [hA17]; exact hr17)
          rw [← hy17, ← hA17, ← hc17] at hcut17
          have HO365 := Aside0.mk (show Kd.V (Kd.int .i64) 3 _ w.heap.size _ (.slice A17 y361.length c17) y361 from Kd.V_mk (by rw [hy17, hc17]; exact Nat.sub_le_sub_right hroom17 _) hr17)
          have HC365 := Aside0.mk (show y361.length ≤ c17 from by rw [hy17, hc17]; exact Nat.sub_le_sub_right hroom17 _)
          have KC17 := Aside0.mk hc17
          clear hr17 hC17 hroom17 hi017 hsz17 hc17
          have KY17 := Aside0.mk hy17
          have KA17 := Aside0.mk hA17
          clear hy17 hA17
          replace q17 := eq_true q17
          refine start_ (n := 7) (S := fun w' => w'.cell? ⟨gb350, 0, none⟩ = some (.int .i64 a0_0) ∧ w'.cell? ⟨gb350, 1, none⟩ = some (.int .i64 a0_1) ∧ w'.cell? ⟨gb350, 2, none⟩ = some (.int .i64 a0_2) ∧ w'.cell? ⟨gb350, 3, none⟩ = some (.slice A0_3 l0_3.length c0_3) ∧ w'.cell? ⟨gb350, 4, none⟩ = some (.slice A0_4 l0_4.length c0_4)) (ds := []) #[false, false, false, false, false, false, false] (by kernel_rfl) rfl rfl (bh5_ BK350.out) (fun hHeld => ?_)
          generalize w12.drew = w16 at HO360 BK350 BK351 HB HO365 hHeld ⊢
          refine pure_ (i := 0) (N := some 20) (v := ?_) (a' := ?_) (bm 7 0x1) rfl rfl (by kernel_rfl) (fun _ _ _ h => h) (Or.inl ⟨by rfl, ?_⟩) ?_ ?_
          rotate_left
          · intro w'
            go_simp
            with_reducible rfl
          rotate_left
          · simp only [Act.put, List.setIfInBounds_toArray, List.set_cons_zero, List.set_cons_succ, i64_w, i32_w]
            rfl
          refine pure_ (i := 2) (N := some 22) (v := ?_) (a' := ?_) (bm 7 0x5) rfl rfl (by kernel_rfl) (fun _ _ _ h => h) (Or.inl ⟨by rfl, ?_⟩) ?_ ?_
          rotate_left
          · intro w'
            go_simp
            with_reducible rfl
          rotate_left
          · simp only [Act.put, List.setIfInBounds_toArray, List.set_cons_zero, List.set_cons_succ, i64_w, i32_w]
            rfl
          refine pure_ (i := 3) (N := some 23) (v := ?_) (a' := ?_) (bm 7 0xd) rfl rfl (by kernel_rfl) (fun _ _ _ h => h) (Or.inl ⟨by rfl, ?_⟩) ?_ ?_
          rotate_left
          · intro w'
            go_simp
            with_reducible rfl
          rotate_left
          · simp only [Act.put, List.setIfInBounds_toArray, List.set_cons_zero, List.set_cons_succ, i64_w, i32_w]
            rfl
          refine pure_ (i := 4) (N := some 24) (v := ?_) (a' := ?_) (bm 7 0x1d) rfl rfl (by kernel_rfl) (fun _ _ _ h => h) (Or.inl ⟨by rfl, ?_⟩) ?_ ?_
          rotate_left
          · intro w'
            go_simp
            with_reducible rfl
          rotate_left
          · simp only [Act.put, List.setIfInBounds_toArray, List.set_cons_zero, List.set_cons_succ, i64_w, i32_w]
            rfl
          refine take_ (i := 1) (N := some 21) (v := ?_) (a' := ?_) (bm 7 0x1f) rfl rfl (by kernel_rfl) (fun _ _ _ h => h) (Or.inl ⟨by rfl, ?_⟩) hHeld ?_ ?_
          rotate_left
          · rintro w' ⟨s0, s1, s2, s3, s4⟩
            go_simp
            with_reducible rfl
          rotate_left
          · simp only [Act.put, List.setIfInBounds_toArray, List.set_cons_zero, List.set_cons_succ, i64_w, i32_w]
            rfl
          refine pure_ (i := 5) (N := some 25) (v := ?_) (a' := ?_) (bm 7 0x3f) rfl rfl (by kernel_rfl) (fun _ _ _ h => h) (Or.inl ⟨by rfl, ?_⟩) ?_ ?_
          rotate_left
          · intro w'
            go_simp
            with_reducible rfl
          rotate_left
          · simp only [Act.put, List.setIfInBounds_toArray, List.set_cons_zero, List.set_cons_succ, i64_w, i32_w]
            rfl
          refine one_ (i := 6) (N := none) (bm 7 0x7f) rfl rfl (by kernel_rfl) (by decide) (fun K hK => ?_)
          have hs18 : w16.cell? ⟨gb351, 0, none⟩ = some (.int .i64 0) := (blk_cell BK351.out 0).trans rfl
          have hfs18 := blk_frozen BK351.out 0
          have hns18_0 := NB350_351.out
          have hms18_0 := NB351_350.out
          have hs19 : w16.cell? ⟨gb351, 1, none⟩ = some (.int .i64 0) := (blk_cell BK351.out 1).trans rfl
          have hfs19 := blk_frozen BK351.out 1
          have hns19_0 := NB350_351.out
          have hms19_0 := NB351_350.out
          have hs20 : w16.cell? ⟨gb351, 2, none⟩ = some (.int .i64 0) := (blk_cell BK351.out 2).trans rfl
          have hfs20 := blk_frozen BK351.out 2
          have hns20_0 := NB350_351.out
          have hms20_0 := NB351_350.out
          have hs21 : w16.cell? ⟨gb351, 3, none⟩ = some (.slice none 0 0) := (blk_cell BK351.out 3).trans rfl
          have hfs21 := blk_frozen BK351.out 3
          have hns21_0 := NB350_351.out
          have hms21_0 := NB351_350.out
          have hs22 : w16.cell? ⟨gb351, 4, none⟩ = some (.slice none 0 0) := (blk_cell BK351.out 4).trans rfl
          have hfs22 := blk_frozen BK351.out 4
          have hns22_0 := NB350_351.out
          have hms22_0 := NB351_350.out
          refine skip_ (w1 := ?_) (by rfl) rfl ?_ ?_
          rotate_left
          · go_simp
            rfl
          refine hK.out _ _ ⟨((cell_far (p := ⟨gb351, _, none⟩) NB350_351.out _).trans (((cell_far (p := ⟨gb351, _, none⟩) NB350_351.out _).trans (((cell_far (p := ⟨gb351, _, none⟩) NB350_351.out _).trans (((cell_far (p := ⟨gb351, _, none⟩) NB350_351.out _).trans (((cell_far (p := ⟨gb351, _, none⟩) NB350_351.out _).trans (hHeld.1)))))))))), ((cell_far (p := ⟨gb351, _, none⟩) NB350_351.out _).trans (((cell_far (p := ⟨gb351, _, none⟩) NB350_351.out _).trans (((cell_far (p := ⟨gb351, _, none⟩) NB350_351.out _).trans (((cell_far (p := ⟨gb351, _, none⟩) NB350_351.out _).trans (((cell_far (p := ⟨gb351, _, none⟩) NB350_351.out _).trans (hHeld.2.1)))))))))), ((cell_far (p := ⟨gb351, _, none⟩) NB350_351.out _).trans (((cell_far (p := ⟨gb351, _, none⟩) NB350_351.out _).trans (((cell_far (p := ⟨gb351, _, none⟩) NB350_351.out _).trans (((cell_far (p := ⟨gb351, _, none⟩) NB350_351.out _).trans (((cell_far (p := ⟨gb351, _, none⟩) NB350_351.out _).trans (hHeld.2.2.1)))))))))), ((cell_far (p := ⟨gb351, _, none⟩) NB350_351.out _).trans (((cell_far (p := ⟨gb351, _, none⟩) NB350_351.out _).trans (((cell_far (p := ⟨gb351, _, none⟩) NB350_351.out _).trans (((cell_far (p := ⟨gb351, _, none⟩) NB350_351.out _).trans (((cell_far (p := ⟨gb351, _, none⟩) NB350_351.out _).trans (hHeld.2.2.2.1)))))))))), ((cell_far (p := ⟨gb351, _, none⟩) NB350_351.out _).trans (((cell_far (p := ⟨gb351, _, none⟩) NB350_351.out _).trans (((cell_far (p := ⟨gb351, _, none⟩) NB350_351.out _).trans (((cell_far (p := ⟨gb351, _, none⟩) NB350_351.out _).trans (((cell_far (p := ⟨gb351, _, none⟩) NB350_351.out _).trans (hHeld.2.2.2.2))))))))))⟩ (fun hHeld => ?_)
          clear hK K
          refine done_ (by kernel_rfl) ?_
          try go_wp2
          refine bodyPost_ret (results_cell_row rfl _ _ gb351 63 #[.int .i64 a0_0, .int .i64 a0_1, .int .i64 a0_2, .slice none 0 0, .slice A17 y361.length c17] (0, 0) _ rfl (by exact bp5_ BK351.out) Try.underlying63 rfl (by kernel_rfl)) rfl ?_
          exact ⟨_, _, by rfl, by (exact Kd.R_nil _ _ _ _ _), by exact Kd.V_mono (vf5_ (Kd.V_mono HO365.out (fun k_ hk => (⟨hk, hk.2⟩ : _ ∧ k_ ≠ gb351))) (fun _ hk => hk.2)) (fun _ hk => ⟨hk.1.1.1, (by simp [Value.ownBlock])⟩), by repeat ((with_reducible first | exact HB.out | refine below_set ?_ GE351.out))⟩
        · rw [if_neg c5] at H
          exact absurd H (by simp)
      · rw [if_neg c4] at H
        have c4b0 : decide ((wrap64 ((y358.length : Int) - a0_2)) < 0) = false := decide_eq_false c4
        clear c4
        obtain ⟨ji23, hji23⟩ : ∃ j_ : Int, (wrap64 ((y358.length : Int) - a0_2)) = j_ := ⟨_, rfl⟩
        replace H : (if 0 ≤ (ji23) then (if (ji23) ≤ (y358.length : Int) then (some (a0_0, a0_1, a0_2, ([] : List Int), (y358.drop ((ji23) : Int).toNat))) else (none)) else (none)) = some (r1, r2, r3, r4, r5) := by (rw [hji23] at H; exact H)
        (try rw [hji23] at c4b0)
        have hji23w : (IntKind.i64.wrap ((y358.length : Int) - a0_2)) = ji23 := (i64_w _).trans hji23
        by_cases c24 : 0 ≤ (ji23)
        · rw [if_pos c24] at H
          have c24b0 := eq_true c24
          have c24b1 : decide (0 ≤ (ji23)) = true := decide_eq_true c24
          clear c24
          by_cases c25 : (ji23) ≤ (y358.length : Int)
          · rw [if_pos c25] at H
            have c25b0 := eq_true c25
            have c25b1 : decide ((ji23) ≤ (y358.length : Int)) = true := decide_eq_true c25
            clear c25
            obtain ⟨y366, hy366⟩ : ∃ y_ : List Int, y_ = (y358.drop ((ji23) : Int).toNat) := ⟨_, rfl⟩
            replace H : (some (a0_0, a0_1, a0_2, ([] : List Int), y366)) = some (r1, r2, r3, r4, r5) := by (rw [hy366]; with_reducible exact H)
            have Ny366 := Aside0.mk hy366
            clear hy366
            simp only [Option.some.injEq, Prod.mk.injEq] at H
            obtain ⟨rfl, rfl, rfl, rfl, rfl⟩ := H
            go_enter Try.func40, Try.ntmps40
            try go_wp2_with (first | ((with_reducible refine gate_dst (N := 1) rfl ?_); refine box_event ?hg (N := 1) ?hd (cs := #[.int .i64 a0_0, .int .i64 a0_1, .int .i64 a0_2, .slice A0_3 l0_3.length c0_3, .slice A0_4 l0_4.length c0_4]) (t := 63) ?hr ?_; (case hd => rfl); (case hg => rfl); (case hr => (go_simp; done)); intro gb350 hg w26 hbox hb; have n1_ := Aside0.mk (hbox); have n2_ := Aside0.mk ((by rw [hg]; exact (below_size HB.out) : w.heap.size ≤ gb350)); have n3_ := Aside0.mk ((by rw [hg]; exact (below_size HB.out) : w.heap.size ≤ gb350)); have BK350 := n1_; have GW350 := n2_; have GE350 := n3_; clear n1_ n2_ n3_; replace HB := hb_ HB hb; clear hb hbox hg) | ((with_reducible refine gate_dst (N := 2) rfl ?_); refine box_event ?hg (N := 2) ?hd (cs := #[.int .i64 0, .int .i64 0, .int .i64 0, .slice none 0 0, .slice none 0 0]) (t := 63) ?hr ?_; (case hd => rfl); (case hg => rfl); (case hr => (go_simp; done)); intro gb351 hg w27 hbox hb; have n2_ := Aside0.mk (hbox); have n3_ := Aside0.mk ((by rw [hg]; exact (below_size HB.out) : w.heap.size ≤ gb351)); have n4_ := Aside0.mk ((by rw [hg]; exact (below_size HB.out) : w.heap.size ≤ gb351)); have n5_ := Aside0.mk ((by rw [hg]; exact Nat.ne_of_lt (blk_lt BK350.out) : gb350 ≠ gb351)); have n6_ := Aside0.mk ((by rw [hg]; exact Nat.ne_of_gt (blk_lt BK350.out) : gb351 ≠ gb350)); have BK351 := n2_; have GW351 := n3_; have GE351 := n4_; have NB350_351 := n5_; have NB351_350 := n6_; clear n2_ n3_ n4_ n5_ n6_; replace BK350 := kb_ BK350 hb; replace HB := hb_ HB hb; clear hb hbox hg))
            have n0_ := Aside0.mk (blk_drew BK350.out)
            have n1_ := Aside0.mk (blk_drew BK351.out)
            have n2_ := Aside0.mk (below_drew1 HB.out)
            clear BK350 BK351 HB; have BK350 := n0_; have BK351 := n1_; have HB := n2_; clear n0_ n1_ n2_
            refine start_ (n := 8) (S := fun w' => w'.cell? ⟨gb350, 0, none⟩ = some (.int .i64 a0_0) ∧ w'.cell? ⟨gb350, 1, none⟩ = some (.int .i64 a0_1) ∧ w'.cell? ⟨gb350, 2, none⟩ = some (.int .i64 a0_2) ∧ w'.cell? ⟨gb350, 3, none⟩ = some (.slice A0_3 l0_3.length c0_3) ∧ w'.cell? ⟨gb350, 4, none⟩ = some (.slice A0_4 l0_4.length c0_4)) (ds := []) #[false, false, false, false, false, false, false, false] (by kernel_rfl) rfl rfl (bh5_ BK350.out) (fun hHeld => ?_); refine with_tabW remontoirref18_Deliver.tab1 remontoirref18_Deliver.bits1 (fun HT_ HW_ => ?_)
            generalize w27.drew = w28 at BK350 BK351 HB hHeld ⊢
            refine pa_ 1 6 (bm 8 0x2) HT_ (h := ?_)
            refine pa_ 4 9 (bm 8 0x12) HT_ (h := ?_)
            refine take_ (i := 2) (N := some 7) (v := ?_) (a' := ?_) (bm 8 0x16) rfl rfl (take_ofW HT_.out HW_.out (by kernel_rfl)) (fun _ _ _ h => h) (Or.inl ⟨by rfl, ?_⟩) hHeld ?_ ?_
            rotate_left
            · rintro w' ⟨s0, s1, s2, s3, s4⟩
              go_simp
              with_reducible rfl
            rotate_left
            · simp only [Act.put, List.setIfInBounds_toArray, List.set_cons_zero, List.set_cons_succ, i64_w, i32_w]
              rfl
            refine take_ (i := 5) (N := some 10) (v := ?_) (a' := ?_) (bm 8 0x36) rfl rfl (take_ofW HT_.out HW_.out (by kernel_rfl)) (fun _ _ _ h => h) (Or.inl ⟨by rfl, ?_⟩) hHeld ?_ ?_
            rotate_left
            · rintro w' ⟨s0, s1, s2, s3, s4⟩
              go_simp
              with_reducible rfl
            rotate_left
            · simp only [Act.put, List.setIfInBounds_toArray, List.set_cons_zero, List.set_cons_succ, i64_w, i32_w]
              rfl
            refine one_ (i := 0) (N := some 5) (bm 8 0x37) rfl rfl (one_of HT_.out (by kernel_rfl)) (by decide) (fun K hK => ?_)
            refine Kd.R_lit_step (Kd.int .i64) _ 3 ?hg (N := 5) ?hd (xs := ([] : List Int)) (inner := []) (ok := fun _ => True) (okp := fun _ => True) ?hr ?hp (fun _ hk => hk) trivial (Below.refl _ _) (Nat.le_refl _) (by simp) ?_; (case hd => rfl); (case hg => rfl); (case hr => (go_simp; done)); (case hp => exact (Reps.none _ _))
            intro v353 w29 ho30 hb hg_ hnew_
            clear hg_ hnew_
            ((rw [← Ny352.out] at ho30))
            have n0_ := Aside0.mk (Kd.R_lower (Kd.R_newM (M := fun k_ => (w.heap.size ≤ k_)) ho30 (below_size HB.out) (fun k_ h_ => h_)) (below_size HB.out))
            have HO354 := n0_; clear n0_; replace BK350 := kb_ BK350 hb; replace BK351 := kb_ BK351 hb; replace HB := hb_ HB hb
            clear hb ho30
            refine hK.out _ _ (bh5_ BK350.out) (fun hHeld => ?_)
            clear hK K
            refine nm_ 5 (h := ?_)
            refine one_ (i := 3) (N := some 8) (bm 8 0x3f) rfl rfl (one_of HT_.out (by kernel_rfl)) (by decide) (fun K hK => ?_)
            refine Kd.R_append_rows_step (Kd.int .i64) (w0 := w) w.heap.size (by rfl) (.tmp 5) (.tmp 7) 22 3 (.int .i64 0) 8 rfl Try.underlying22 info3 rfl (by decide) (by omega) v353 y352 l0_4 _ _ _ (fun k_ => (w.heap.size ≤ k_)) (fun _ => False) rfl rfl ?aO ?aR (fun _ _ h => h) (fun _ h => h.elim) ?aF ?aB ?aS ?aL ?_
            (case aR => repeat ((exact (Kd.C_below HR0_4.out HB.out))))
            (case aB => exact HB.out)
            (case aF => exact (fun k_ hk => (Nat.le_trans (below_size HB.out) hk)))
            (case aO => exact (by exact Kd.R_mono HO354.out (fun _ hk => hk.1)))
            (case aS => exact (below_size HB.out))
            (case aL => have := LMc2.out; omega)
            intro v356 w31 ho hb hg hat
            rw [← Ny355.out] at ho
            have n0_ := Aside0.mk (blk_grown BK350.out hg (Kd.R_ne HO354.out BK350.out (by decide)))
            have n1_ := Aside0.mk (blk_grown BK351.out hg (Kd.R_ne HO354.out BK351.out (by decide)))
            have n2_ := Aside0.mk (hb)
            have n3_ := Aside0.mk (ho)
            clear BK350 BK351 HB HO354; have BK350 := n0_; have BK351 := n1_; have HB := n2_; have HO357 := n3_; clear n0_ n1_ n2_ n3_
            clear ho hb hg hat
            refine hK.out _ _ (bh5_ BK350.out) (fun hHeld => ?_)
            clear hK K
            refine nm_ 8 (h := ?_)
            refine one_ (i := 6) (N := some 11) (bm 8 0x7f) rfl rfl (one_of HT_.out (by kernel_rfl)) (by decide) (fun K hK => ?_)
            refine Kd.R_append_rows_step (Kd.int .i64) (w0 := w) w.heap.size (by rfl) (.tmp 8) (.tmp 10) 22 3 (.int .i64 0) 8 rfl Try.underlying22 info3 rfl (by decide) (by omega) v356 y355 l0_3 _ _ _ (fun k_ => (w.heap.size ≤ k_)) (fun _ => False) rfl rfl ?aO ?aR (fun _ _ h => h) (fun _ h => h.elim) ?aF ?aB ?aS ?aL ?_
            (case aR => repeat ((exact (Kd.C_below HR0_3.out HB.out))))
            (case aB => exact HB.out)
            (case aF => exact (fun k_ hk => (Nat.le_trans (below_size HB.out) hk)))
            (case aO => exact HO357.out)
            (case aS => exact (below_size HB.out))
            (case aL => have := LMc3.out; omega)
            intro v359 w32 ho hb hg hat
            rw [← Ny358.out] at ho
            have n0_ := Aside0.mk (blk_grown BK350.out hg (Kd.R_ne HO357.out BK350.out (by decide)))
            have n1_ := Aside0.mk (blk_grown BK351.out hg (Kd.R_ne HO357.out BK351.out (by decide)))
            have n2_ := Aside0.mk (hb)
            have n3_ := Aside0.mk (ho)
            clear BK350 BK351 HB HO357; have BK350 := n0_; have BK351 := n1_; have HB := n2_; have HO360 := n3_; clear n0_ n1_ n2_ n3_
            clear ho hb hg hat
            refine hK.out _ _ (bh5_ BK350.out) (fun hHeld => ?_)
            clear hK K
            refine nm_ 11 (h := ?_)
            refine pa_ 7 3 (bm 8 0xff) HT_ (h := ?_)
            refine done_ (done_of HT_.out (by kernel_rfl)) ?_
            obtain ⟨Ao33, co33, eo33⟩ := Kd.R_slice HO360.out
            subst eo33
            have hnb34 := NB350_351.out
            have hnc34 := NB351_350.out
            obtain ⟨_, _, _, _, _, _, _, _, _, _⟩ := bk5_ BK350.out
            try go_wp2
            have n0_ := Aside0.mk (Kd.R_drew HO360.out)
            have n1_ := Aside0.mk (blk_drew BK350.out)
            have n2_ := Aside0.mk (blk_drew BK351.out)
            have n3_ := Aside0.mk (below_drew1 HB.out)
            clear HO360 BK350 BK351 HB; have HO360 := n0_; have BK350 := n1_; have BK351 := n2_; have HB := n3_; clear n0_ n1_ n2_ n3_
            have q37 : ((ji23) : Int) ≤ ((y358.length : Int) : Int) := of_decide_eq_true (by (with_reducible assumption))
            obtain ⟨i037, hi037, _, hsz37, _⟩ := info_parts info3
            have hroom37 : y358.length ≤ co33 := (Kd.R_reads' HO360.out).2.1
            have hC37 : Kd.F (Kd.int .i64) _ _ Ao33 y358.length y358 := (Kd.V_at (base := w.heap.size) (Kd.R_V (Kd.R_types (Kd.R_types (HO360.out) BK350.out (by decide)) BK351.out (by decide)))).2.2
            have q037 : (0 : Int) ≤ ((ji23) : Int) := of_decide_eq_true (by (with_reducible assumption))
            have hcut37 := cut_from (P := Try.prog) 22 3 .i64 Try.underlying22 hi037 1 hsz37 Ao33 y358.length co33 (ji23) q037 q37
            have hr37 := Kd.F_cut (m := ((ji23) : Int).toNat) (c := co33) hC37 (by omega) hroom37
            obtain ⟨A37, hA37⟩ : ∃ A1, A1 = (if co33 = ((ji23) : Int).toNat then Ao33 else (Ao33 : Option Addr).map (·.add (((ji23) : Int).toNat * 1))) := ⟨_, rfl⟩
            obtain ⟨c37, hc37⟩ : ∃ c1, c1 = co33 - ((ji23) : Int).toNat := ⟨_, rfl⟩
            have hy37 : y366.length = y358.length - ((ji23) : Int).toNat := (by rw [Ny366.out, List.length_drop] <;> omega)
            rw [show (y358).drop ((ji23) : Int).toNat = y366 from Ny366.out.symm] at hr37
            replace hr37 : Kd.F (Kd.int .i64) _ _ A37 y366.length y366 := (by rw [hA37]; exact hr37)
            rw [← hy37, ← hA37, ← hc37] at hcut37
            have HO370 := Aside0.mk (show Kd.V (Kd.int .i64) 3 _ w.heap.size _ (.slice A37 y366.length c37) y366 from Kd.V_mk (by rw [hy37, hc37]; exact Nat.sub_le_sub_right hroom37 _) hr37)
            have HC370 := Aside0.mk (show y366.length ≤ c37 from by rw [hy37, hc37]; exact Nat.sub_le_sub_right hroom37 _)
            have KC37 := Aside0.mk hc37
            clear hr37 hC37 hroom37 hi037 hsz37 hc37
            have KY37 := Aside0.mk hy37
            have KA37 := Aside0.mk hA37
            clear hy37 hA37
            replace q37 := eq_true q37
            refine start_ (n := 7) (S := fun w' => w'.cell? ⟨gb350, 0, none⟩ = some (.int .i64 a0_0) ∧ w'.cell? ⟨gb350, 1, none⟩ = some (.int .i64 a0_1) ∧ w'.cell? ⟨gb350, 2, none⟩ = some (.int .i64 a0_2) ∧ w'.cell? ⟨gb350, 3, none⟩ = some (.slice A0_3 l0_3.length c0_3) ∧ w'.cell? ⟨gb350, 4, none⟩ = some (.slice A0_4 l0_4.length c0_4)) (ds := []) #[false, false, false, false, false, false, false] (by kernel_rfl) rfl rfl (bh5_ BK350.out) (fun hHeld => ?_)
            generalize w32.drew = w36 at HO360 BK350 BK351 HB HO370 hHeld ⊢
            refine pure_ (i := 0) (N := some 20) (v := ?_) (a' := ?_) (bm 7 0x1) rfl rfl (by kernel_rfl) (fun _ _ _ h => h) (Or.inl ⟨by rfl, ?_⟩) ?_ ?_
            rotate_left
            · intro w'
              go_simp
              with_reducible rfl
            rotate_left
            · simp only [Act.put, List.setIfInBounds_toArray, List.set_cons_zero, List.set_cons_succ, i64_w, i32_w]
              rfl
            refine pure_ (i := 2) (N := some 22) (v := ?_) (a' := ?_) (bm 7 0x5) rfl rfl (by kernel_rfl) (fun _ _ _ h => h) (Or.inl ⟨by rfl, ?_⟩) ?_ ?_
            rotate_left
            · intro w'
              go_simp
              with_reducible rfl
            rotate_left
            · simp only [Act.put, List.setIfInBounds_toArray, List.set_cons_zero, List.set_cons_succ, i64_w, i32_w]
              rfl
            refine pure_ (i := 3) (N := some 23) (v := ?_) (a' := ?_) (bm 7 0xd) rfl rfl (by kernel_rfl) (fun _ _ _ h => h) (Or.inl ⟨by rfl, ?_⟩) ?_ ?_
            rotate_left
            · intro w'
              go_simp
              with_reducible rfl
            rotate_left
            · simp only [Act.put, List.setIfInBounds_toArray, List.set_cons_zero, List.set_cons_succ, i64_w, i32_w]
              rfl
            refine pure_ (i := 4) (N := some 24) (v := ?_) (a' := ?_) (bm 7 0x1d) rfl rfl (by kernel_rfl) (fun _ _ _ h => h) (Or.inl ⟨by rfl, ?_⟩) ?_ ?_
            rotate_left
            · intro w'
              go_simp
              with_reducible rfl
            rotate_left
            · simp only [Act.put, List.setIfInBounds_toArray, List.set_cons_zero, List.set_cons_succ, i64_w, i32_w]
              rfl
            refine take_ (i := 1) (N := some 21) (v := ?_) (a' := ?_) (bm 7 0x1f) rfl rfl (by kernel_rfl) (fun _ _ _ h => h) (Or.inl ⟨by rfl, ?_⟩) hHeld ?_ ?_
            rotate_left
            · rintro w' ⟨s0, s1, s2, s3, s4⟩
              go_simp
              with_reducible rfl
            rotate_left
            · simp only [Act.put, List.setIfInBounds_toArray, List.set_cons_zero, List.set_cons_succ, i64_w, i32_w]
              rfl
            refine pure_ (i := 5) (N := some 25) (v := ?_) (a' := ?_) (bm 7 0x3f) rfl rfl (by kernel_rfl) (fun _ _ _ h => h) (Or.inl ⟨by rfl, ?_⟩) ?_ ?_
            rotate_left
            · intro w'
              go_simp
              with_reducible rfl
            rotate_left
            · simp only [Act.put, List.setIfInBounds_toArray, List.set_cons_zero, List.set_cons_succ, i64_w, i32_w]
              rfl
            refine one_ (i := 6) (N := none) (bm 7 0x7f) rfl rfl (by kernel_rfl) (by decide) (fun K hK => ?_)
            have hs38 : w36.cell? ⟨gb351, 0, none⟩ = some (.int .i64 0) := (blk_cell BK351.out 0).trans rfl
            have hfs38 := blk_frozen BK351.out 0
            have hns38_0 := NB350_351.out
            have hms38_0 := NB351_350.out
            have hs39 : w36.cell? ⟨gb351, 1, none⟩ = some (.int .i64 0) := (blk_cell BK351.out 1).trans rfl
            have hfs39 := blk_frozen BK351.out 1
            have hns39_0 := NB350_351.out
            have hms39_0 := NB351_350.out
            have hs40 : w36.cell? ⟨gb351, 2, none⟩ = some (.int .i64 0) := (blk_cell BK351.out 2).trans rfl
            have hfs40 := blk_frozen BK351.out 2
            have hns40_0 := NB350_351.out
            have hms40_0 := NB351_350.out
            have hs41 : w36.cell? ⟨gb351, 3, none⟩ = some (.slice none 0 0) := (blk_cell BK351.out 3).trans rfl
            have hfs41 := blk_frozen BK351.out 3
            have hns41_0 := NB350_351.out
            have hms41_0 := NB351_350.out
            have hs42 : w36.cell? ⟨gb351, 4, none⟩ = some (.slice none 0 0) := (blk_cell BK351.out 4).trans rfl
            have hfs42 := blk_frozen BK351.out 4
            have hns42_0 := NB350_351.out
            have hms42_0 := NB351_350.out
            refine skip_ (w1 := ?_) (by rfl) rfl ?_ ?_
            rotate_left
            · go_simp
              rfl
            refine hK.out _ _ ⟨((cell_far (p := ⟨gb351, _, none⟩) NB350_351.out _).trans (((cell_far (p := ⟨gb351, _, none⟩) NB350_351.out _).trans (((cell_far (p := ⟨gb351, _, none⟩) NB350_351.out _).trans (((cell_far (p := ⟨gb351, _, none⟩) NB350_351.out _).trans (((cell_far (p := ⟨gb351, _, none⟩) NB350_351.out _).trans (hHeld.1)))))))))), ((cell_far (p := ⟨gb351, _, none⟩) NB350_351.out _).trans (((cell_far (p := ⟨gb351, _, none⟩) NB350_351.out _).trans (((cell_far (p := ⟨gb351, _, none⟩) NB350_351.out _).trans (((cell_far (p := ⟨gb351, _, none⟩) NB350_351.out _).trans (((cell_far (p := ⟨gb351, _, none⟩) NB350_351.out _).trans (hHeld.2.1)))))))))), ((cell_far (p := ⟨gb351, _, none⟩) NB350_351.out _).trans (((cell_far (p := ⟨gb351, _, none⟩) NB350_351.out _).trans (((cell_far (p := ⟨gb351, _, none⟩) NB350_351.out _).trans (((cell_far (p := ⟨gb351, _, none⟩) NB350_351.out _).trans (((cell_far (p := ⟨gb351, _, none⟩) NB350_351.out _).trans (hHeld.2.2.1)))))))))), ((cell_far (p := ⟨gb351, _, none⟩) NB350_351.out _).trans (((cell_far (p := ⟨gb351, _, none⟩) NB350_351.out _).trans (((cell_far (p := ⟨gb351, _, none⟩) NB350_351.out _).trans (((cell_far (p := ⟨gb351, _, none⟩) NB350_351.out _).trans (((cell_far (p := ⟨gb351, _, none⟩) NB350_351.out _).trans (hHeld.2.2.2.1)))))))))), ((cell_far (p := ⟨gb351, _, none⟩) NB350_351.out _).trans (((cell_far (p := ⟨gb351, _, none⟩) NB350_351.out _).trans (((cell_far (p := ⟨gb351, _, none⟩) NB350_351.out _).trans (((cell_far (p := ⟨gb351, _, none⟩) NB350_351.out _).trans (((cell_far (p := ⟨gb351, _, none⟩) NB350_351.out _).trans (hHeld.2.2.2.2))))))))))⟩ (fun hHeld => ?_)
            clear hK K
            refine done_ (by kernel_rfl) ?_
            try go_wp2
            refine bodyPost_ret (results_cell_row rfl _ _ gb351 63 #[.int .i64 a0_0, .int .i64 a0_1, .int .i64 a0_2, .slice none 0 0, .slice A37 y366.length c37] (0, 0) _ rfl (by exact bp5_ BK351.out) Try.underlying63 rfl (by kernel_rfl)) rfl ?_
            exact ⟨_, _, by rfl, by (exact Kd.R_nil _ _ _ _ _), by exact Kd.V_mono (vf5_ (Kd.V_mono HO370.out (fun k_ hk => (⟨hk, hk.2⟩ : _ ∧ k_ ≠ gb351))) (fun _ hk => hk.2)) (fun _ hk => ⟨hk.1.1.1, (by simp [Value.ownBlock])⟩), by repeat ((with_reducible first | exact HB.out | refine below_set ?_ GE351.out))⟩
          · rw [if_neg c25] at H
            exact absurd H (by simp)
        · rw [if_neg c24] at H
          exact absurd H (by simp)
    · rw [if_neg c3] at H
      exact absurd H (by simp)
  · rw [if_neg c2] at H
    exact absurd H (by simp)

end Go.Proofs.Yteddflcloeelhaa.FDeliv
