-- Written by the session (wip/tools) for this claim: functions of the program as Lean functions, and their contracts.
import Derived.Test.YteddflcloeelhaaZXShort
import Derived.Test.YteddflcloeelhaaZFDelivx0
import Derived.Test.YteddflcloeelhaaZFDelivx2
import Derived.Test.YteddflcloeelhaaZFDelivx3
namespace Go.Proofs.Yteddflcloeelhaa.FDeliv
open Go.RowKit Go.Proofs.YteddflcloeelhaaW.PrintWords Go.Proofs.YteddflcloeelhaaW.PrintLast Go.Proofs.YteddflcloeelhaaW.PrintMore
attribute [local go_sem] max2_int min2_int max_two min_two max_three min_three max_four min_four   -- for this text's walks alone
set_option linter.unusedVariables false
set_option linter.unusedSimpArgs false

/-! ### ring_Pop: function 23 -/
def ring_Pop.f (l0_0 : List Int) (a0_1 : Int) (a0_2 : Int) : Option (Int × List Int × Int × Int × Int) := (ring_Right.f l0_0 a0_1 a0_2).bind fun t174 => (if t174 = true then (if a0_2 = 0 then (some (0, l0_0, a0_1, a0_2, 4)) else ((ring_own.f l0_0 a0_1 a0_2).bind fun bt175 => (if 0 ≤ bt175.2.1 then (if bt175.2.1 < (bt175.1.length : Int) then ((ring_at.f bt175.1 bt175.2.1 bt175.2.2 1).bind fun t181 => (some (rd bt175.1 bt175.2.1, bt175.1, t181, wrap64 (bt175.2.2 - 1), 0))) else (none)) else (none)))) else (some (0, l0_0, a0_1, a0_2, 1)))
set_option maxHeartbeats 8000000 in
set_option maxRecDepth 100000 in
theorem ring_Pop.calls (P0_0_ : Nat → Prop) (A0_0 : Option Addr) (c0_0 : Nat) (l0_0 : List Int) (a0_1 : Int) (a0_2 : Int) (r1 : Int) (r2 : List Int) (r3 : Int) (r4 : Int) (r5 : Int) (w : World) (hs0_0 : Kd.V (Kd.int .i64) 3 w w.heap.size (fun k_ => P0_0_ k_) (.slice A0_0 l0_0.length c0_0) l0_0) (h : ring_Pop.f l0_0 a0_1 a0_2 = some (r1, r2, r3, r4, r5)) :
    Calls Try.prog 23 #[.agg #[.slice A0_0 l0_0.length c0_0, .int .i64 a0_1, .int .i64 a0_2]] w fun e w' => ∃ v1_ : Value, e = .returned (.tuple #[.int .i64 r1, .agg #[v1_, .int .i64 r3, .int .i64 r4], .int .i64 r5]) ∧ Kd.V (Kd.int .i64) 3 w' w.heap.size (fun k_ => (P0_0_ k_ ∨ w.heap.size ≤ k_)) v1_ r2 ∧ Below w.heap.size w w' := by
  have hu24 := Try.underlying24
  have HO0_0 := Aside0.mk (show Kd.V (Kd.int .i64) 3 w w.heap.size (fun k_ => (P0_0_ k_ ∨ w.heap.size ≤ k_)) (.slice A0_0 l0_0.length c0_0) l0_0 from Kd.V_mono hs0_0 (fun k_ hk => .inl hk))
  have HB := Aside0.mk (Below.refl w.heap.size w)
  have H : ((ring_Right.f l0_0 a0_1 a0_2).bind fun t174 => (if t174 = true then (if a0_2 = 0 then (some (0, l0_0, a0_1, a0_2, 4)) else ((ring_own.f l0_0 a0_1 a0_2).bind fun bt175 => (if 0 ≤ bt175.2.1 then (if bt175.2.1 < (bt175.1.length : Int) then ((ring_at.f bt175.1 bt175.2.1 bt175.2.2 1).bind fun t181 => (some (rd bt175.1 bt175.2.1, bt175.1, t181, wrap64 (bt175.2.2 - 1), 0))) else (none)) else (none)))) else (some (0, l0_0, a0_1, a0_2, 1)))) = some (r1, r2, r3, r4, r5) := h
  clear h
  replace H := Option.bind_eq_some_iff.mp H
  obtain ⟨t174, A20, H⟩ := H
  replace H : (if t174 = true then (if a0_2 = 0 then (some (0, l0_0, a0_1, a0_2, 4)) else ((ring_own.f l0_0 a0_1 a0_2).bind fun bt175 => (if 0 ≤ bt175.2.1 then (if bt175.2.1 < (bt175.1.length : Int) then ((ring_at.f bt175.1 bt175.2.1 bt175.2.2 1).bind fun t181 => (some (rd bt175.1 bt175.2.1, bt175.1, t181, wrap64 (bt175.2.2 - 1), 0))) else (none)) else (none)))) else (some (0, l0_0, a0_1, a0_2, 1))) = some (r1, r2, r3, r4, r5) := H
  have A2 := Aside0.mk A20
  clear A20
  by_cases c3 : t174 = true
  · subst c3
    have H1 : (if a0_2 = 0 then (some (0, l0_0, a0_1, a0_2, 4)) else ((ring_own.f l0_0 a0_1 a0_2).bind fun bt175 => (if 0 ≤ bt175.2.1 then (if bt175.2.1 < (bt175.1.length : Int) then ((ring_at.f bt175.1 bt175.2.1 bt175.2.2 1).bind fun t181 => (some (rd bt175.1 bt175.2.1, bt175.1, t181, wrap64 (bt175.2.2 - 1), 0))) else (none)) else (none)))) = some (r1, r2, r3, r4, r5) := by rw [if_pos rfl] at H; exact H
    clear H
    have H := H1
    clear H1
    by_cases c4 : a0_2 = 0
    · rw [if_pos c4] at H
      have c4b0 : (a0_2 == 0) = true := beq_iff_eq.mpr c4
      have c4b1 : (a0_2 != 0) = false := bne_eq_false_iff_eq.mpr c4
      clear c4
      simp only [Option.some.injEq, Prod.mk.injEq] at H
      obtain ⟨rfl, rfl, rfl, rfl, rfl⟩ := H
      go_enter Try.func23, Try.ntmps23
      try go_wp2_with (first | ((with_reducible refine gate_dst (N := 1) rfl ?_); refine box_event ?hg (N := 1) ?hd (cs := #[.slice A0_0 l0_0.length c0_0, .int .i64 a0_1, .int .i64 a0_2]) (t := 24) ?hr ?_; (case hd => rfl); (case hg => rfl); (case hr => (go_simp; done)); intro gb172 hg w5 hbox hb; have n0_ := Aside0.mk (Kd.V_below (Kd.V_elderB HO0_0.out gb172 (Nat.le_of_eq hg.symm)) hb); have n2_ := Aside0.mk (hbox); have n3_ := Aside0.mk ((by rw [hg]; exact (below_size HB.out) : w.heap.size ≤ gb172)); have n4_ := Aside0.mk ((by rw [hg]; exact (below_size HB.out) : w.heap.size ≤ gb172)); clear HO0_0; have HO0_0 := n0_; have BK172 := n2_; have GW172 := n3_; have GE172 := n4_; clear n0_ n2_ n3_ n4_; replace HB := hb_ HB hb; clear hb hbox hg) | ((with_reducible refine gate_dst (N := 3) rfl ?_); refine box_event ?hg (N := 3) ?hd (cs := #[.slice none 0 0, .int .i64 0, .int .i64 0]) (t := 24) ?hr ?_; (case hd => rfl); (case hg => rfl); (case hr => (go_simp; done)); intro gb173 hg w6 hbox hb; have n0_ := Aside0.mk (Kd.V_below (Kd.V_elderB HO0_0.out gb173 (Nat.le_of_eq hg.symm)) hb); have n3_ := Aside0.mk (hbox); have n4_ := Aside0.mk ((by rw [hg]; exact (below_size HB.out) : w.heap.size ≤ gb173)); have n5_ := Aside0.mk ((by rw [hg]; exact (below_size HB.out) : w.heap.size ≤ gb173)); have n6_ := Aside0.mk ((by rw [hg]; exact Nat.ne_of_lt (blk_lt BK172.out) : gb172 ≠ gb173)); have n7_ := Aside0.mk ((by rw [hg]; exact Nat.ne_of_gt (blk_lt BK172.out) : gb173 ≠ gb172)); clear HO0_0; have HO0_0 := n0_; have BK173 := n3_; have GW173 := n4_; have GE173 := n5_; have NB172_173 := n6_; have NB173_172 := n7_; clear n0_ n3_ n4_ n5_ n6_ n7_; replace BK172 := kb_ BK172 hb; replace HB := hb_ HB hb; clear hb hbox hg; have hnb7 := NB172_173.out; have hnc7 := NB173_172.out; obtain ⟨_, _, _, _, _, _⟩ := bk3_ BK172.out) | ((with_reducible refine gate_callee (f := 17) rfl ?_); refine goesL_ (some 8) rfl rfl Try.func17 (by kernel_rfl) rfl #[.agg #[.slice A0_0 l0_0.length c0_0, .int .i64 a0_1, .int .i64 a0_2]] rfl (by (try simp only [List.map_toArray, List.map_cons, List.map_nil]); rfl) ?_; (with_reducible refine (ring_Right.calls _ _ l0_0 a0_1 a0_2 true _ ?side1 ?side2 A2.out).mono ?_); (case side1 => repeat ((exact (Kd.V_reads' HO0_0.out).2.2))); (case side2 => exact (Kd.V_reads' HO0_0.out).2.1); rintro e w9 ⟨rfl, hb⟩; refine ⟨_, rfl, ?_⟩; replace HO0_0 := vb_ HO0_0 hb; replace BK172 := kb_ BK172 hb; replace BK173 := kb_ BK173 hb; replace HB := hb_ HB hb; (try clear hb); (try clear hb2); (try clear hk); (try clear hi); obtain ⟨_, _, _, _, _, _⟩ := bk3_ BK172.out))
      have n0_ := Aside0.mk (Kd.V_drew HO0_0.out)
      have n1_ := Aside0.mk (blk_drew BK172.out)
      have n2_ := Aside0.mk (blk_drew BK173.out)
      have n3_ := Aside0.mk (below_drew1 HB.out)
      clear HO0_0 BK172 BK173 HB; have HO0_0 := n0_; have BK172 := n1_; have BK173 := n2_; have HB := n3_; clear n0_ n1_ n2_ n3_
      refine start_ (n := 4) (S := fun w' => w'.cell? ⟨gb172, 0, none⟩ = some (.slice A0_0 l0_0.length c0_0) ∧ w'.cell? ⟨gb172, 1, none⟩ = some (.int .i64 a0_1) ∧ w'.cell? ⟨gb172, 2, none⟩ = some (.int .i64 a0_2)) (ds := []) #[false, false, false, false] (by kernel_rfl) rfl rfl (bh3_ BK172.out) (fun hHeld => ?_)
      generalize w9.drew = w11 at HO0_0 BK172 BK173 HB hHeld ⊢
      refine pure_ (i := 1) (N := some 2) (v := ?_) (a' := ?_) (bm 4 0x2) rfl rfl (by kernel_rfl) (fun _ _ _ h => h) (Or.inl ⟨by rfl, ?_⟩) ?_ ?_
      rotate_left
      · intro w'
        go_simp
        with_reducible rfl
      rotate_left
      · simp only [Act.put, List.setIfInBounds_toArray, List.set_cons_zero, List.set_cons_succ, i64_w, i32_w]
        rfl
      refine take_ (i := 0) (N := some 15) (v := ?_) (a' := ?_) (bm 4 0x3) rfl rfl (by kernel_rfl) (fun _ _ _ h => h) (Or.inl ⟨by rfl, ?_⟩) hHeld ?_ ?_
      rotate_left
      · rintro w' ⟨s0, s1, s2⟩
        go_simp
        with_reducible rfl
      rotate_left
      · simp only [Act.put, List.setIfInBounds_toArray, List.set_cons_zero, List.set_cons_succ, i64_w, i32_w]
        rfl
      refine one_ (i := 2) (N := none) (bm 4 0x7) rfl rfl (by kernel_rfl) (by decide) (fun K hK => ?_)
      have hs12 : w11.cell? ⟨gb173, 0, none⟩ = some (.slice none 0 0) := (blk_cell BK173.out 0).trans rfl
      have hfs12 := blk_frozen BK173.out 0
      have hns12_0 := NB172_173.out
      have hms12_0 := NB173_172.out
      have hs13 : w11.cell? ⟨gb173, 1, none⟩ = some (.int .i64 0) := (blk_cell BK173.out 1).trans rfl
      have hfs13 := blk_frozen BK173.out 1
      have hns13_0 := NB172_173.out
      have hms13_0 := NB173_172.out
      have hs14 : w11.cell? ⟨gb173, 2, none⟩ = some (.int .i64 0) := (blk_cell BK173.out 2).trans rfl
      have hfs14 := blk_frozen BK173.out 2
      have hns14_0 := NB172_173.out
      have hms14_0 := NB173_172.out
      refine skip_ (w1 := ?_) (by rfl) rfl ?_ ?_
      rotate_left
      · go_simp
        rfl
      refine hK.out _ _ ⟨((cell_far (p := ⟨gb173, _, none⟩) NB172_173.out _).trans (((cell_far (p := ⟨gb173, _, none⟩) NB172_173.out _).trans (((cell_far (p := ⟨gb173, _, none⟩) NB172_173.out _).trans (hHeld.1)))))), ((cell_far (p := ⟨gb173, _, none⟩) NB172_173.out _).trans (((cell_far (p := ⟨gb173, _, none⟩) NB172_173.out _).trans (((cell_far (p := ⟨gb173, _, none⟩) NB172_173.out _).trans (hHeld.2.1)))))), ((cell_far (p := ⟨gb173, _, none⟩) NB172_173.out _).trans (((cell_far (p := ⟨gb173, _, none⟩) NB172_173.out _).trans (((cell_far (p := ⟨gb173, _, none⟩) NB172_173.out _).trans (hHeld.2.2))))))⟩ (fun hHeld => ?_)
      clear hK K
      refine pure_ (i := 3) (N := some 4) (v := ?_) (a' := ?_) (bm 4 0xf) rfl rfl (by kernel_rfl) (fun _ _ _ h => h) (Or.inl ⟨by rfl, ?_⟩) ?_ ?_
      rotate_left
      · intro w'
        go_simp
        with_reducible rfl
      rotate_left
      · simp only [Act.put, List.setIfInBounds_toArray, List.set_cons_zero, List.set_cons_succ, i64_w, i32_w]
        rfl
      refine done_ (by kernel_rfl) ?_
      try go_wp2
      refine bodyPost_ret (results_list (rs := [.tmp 2, .cell 3 24, .tmp 4]) rfl (by simp) (.tmp (.cell gb173 24 #[.slice A0_0 l0_0.length c0_0, .int .i64 a0_1, .int .i64 a0_2] (0, 0) _ rfl (by exact bp3_ BK173.out) Try.underlying24 rfl (by kernel_rfl) (.tmp .nil)))) rfl ?_
      exact ⟨_, by rfl, by exact Kd.V_mono (vf3_ (Kd.V_mono HO0_0.out (fun k_ hk => (⟨hk, hk.2⟩ : _ ∧ k_ ≠ gb173))) (fun _ hk => hk.2)) (fun _ hk => hk.1.1.1), by repeat ((with_reducible first | exact HB.out | refine below_set ?_ GE173.out))⟩
    · rw [if_neg c4] at H
      have c4b0 : (a0_2 == 0) = false := beq_eq_false_iff_ne.mpr c4
      have c4b1 : (a0_2 != 0) = true := bne_iff_ne.mpr c4
      replace H := Option.bind_eq_some_iff.mp H
      obtain ⟨⟨t175, t178, t179⟩, A150, H⟩ := H
      replace H : (if 0 ≤ t178 then (if t178 < (t175.length : Int) then ((ring_at.f t175 t178 t179 1).bind fun t181 => (some (rd t175 t178, t175, t181, wrap64 (t179 - 1), 0))) else (none)) else (none)) = some (r1, r2, r3, r4, r5) := H
      have A15 := Aside0.mk A150
      clear A150
      by_cases c16 : 0 ≤ t178
      · rw [if_pos c16] at H
        have c16b0 : decide (0 ≤ t178) = true := decide_eq_true c16
        clear c16
        by_cases c17 : t178 < (t175.length : Int)
        · rw [if_pos c17] at H
          have c17b0 : decide (t178 < (t175.length : Int)) = true := decide_eq_true c17
          clear c17
          replace H := Option.bind_eq_some_iff.mp H
          obtain ⟨t181, A180, H⟩ := H
          replace H : (some (rd t175 t178, t175, t181, wrap64 (t179 - 1), 0)) = some (r1, r2, r3, r4, r5) := H
          have A18 := Aside0.mk A180
          clear A180
          simp only [Option.some.injEq, Prod.mk.injEq] at H
          obtain ⟨rfl, rfl, rfl, rfl, rfl⟩ := H
          go_enter Try.func23, Try.ntmps23
          try go_wp2_with (first | ((with_reducible refine gate_dst (N := 1) rfl ?_); refine box_event ?hg (N := 1) ?hd (cs := #[.slice A0_0 l0_0.length c0_0, .int .i64 a0_1, .int .i64 a0_2]) (t := 24) ?hr ?_; (case hd => rfl); (case hg => rfl); (case hr => (go_simp; done)); intro gb172 hg w19 hbox hb; have n0_ := Aside0.mk (Kd.V_below (Kd.V_elderB HO0_0.out gb172 (Nat.le_of_eq hg.symm)) hb); have n2_ := Aside0.mk (hbox); have n3_ := Aside0.mk ((by rw [hg]; exact (below_size HB.out) : w.heap.size ≤ gb172)); have n4_ := Aside0.mk ((by rw [hg]; exact (below_size HB.out) : w.heap.size ≤ gb172)); clear HO0_0; have HO0_0 := n0_; have BK172 := n2_; have GW172 := n3_; have GE172 := n4_; clear n0_ n2_ n3_ n4_; replace HB := hb_ HB hb; clear hb hbox hg) | ((with_reducible refine gate_dst (N := 3) rfl ?_); refine box_event ?hg (N := 3) ?hd (cs := #[.slice none 0 0, .int .i64 0, .int .i64 0]) (t := 24) ?hr ?_; (case hd => rfl); (case hg => rfl); (case hr => (go_simp; done)); intro gb173 hg w20 hbox hb; have n0_ := Aside0.mk (Kd.V_below (Kd.V_elderB HO0_0.out gb173 (Nat.le_of_eq hg.symm)) hb); have n3_ := Aside0.mk (hbox); have n4_ := Aside0.mk ((by rw [hg]; exact (below_size HB.out) : w.heap.size ≤ gb173)); have n5_ := Aside0.mk ((by rw [hg]; exact (below_size HB.out) : w.heap.size ≤ gb173)); have n6_ := Aside0.mk ((by rw [hg]; exact Nat.ne_of_lt (blk_lt BK172.out) : gb172 ≠ gb173)); have n7_ := Aside0.mk ((by rw [hg]; exact Nat.ne_of_gt (blk_lt BK172.out) : gb173 ≠ gb172)); clear HO0_0; have HO0_0 := n0_; have BK173 := n3_; have GW173 := n4_; have GE173 := n5_; have NB172_173 := n6_; have NB173_172 := n7_; clear n0_ n3_ n4_ n5_ n6_ n7_; replace BK172 := kb_ BK172 hb; replace HB := hb_ HB hb; clear hb hbox hg; have hnb21 := NB172_173.out; have hnc21 := NB173_172.out; obtain ⟨_, _, _, _, _, _⟩ := bk3_ BK172.out) | ((with_reducible refine gate_callee (f := 17) rfl ?_); refine goesL_ (some 8) rfl rfl Try.func17 (by kernel_rfl) rfl #[.agg #[.slice A0_0 l0_0.length c0_0, .int .i64 a0_1, .int .i64 a0_2]] rfl (by (try simp only [List.map_toArray, List.map_cons, List.map_nil]); rfl) ?_; (with_reducible refine (ring_Right.calls _ _ l0_0 a0_1 a0_2 true _ ?side1 ?side2 A2.out).mono ?_); (case side1 => repeat ((exact (Kd.V_reads' HO0_0.out).2.2))); (case side2 => exact (Kd.V_reads' HO0_0.out).2.1); rintro e w23 ⟨rfl, hb⟩; refine ⟨_, rfl, ?_⟩; replace HO0_0 := vb_ HO0_0 hb; replace BK172 := kb_ BK172 hb; replace BK173 := kb_ BK173 hb; replace HB := hb_ HB hb; (try clear hb); (try clear hb2); (try clear hk); (try clear hi); obtain ⟨_, _, _, _, _, _⟩ := bk3_ BK172.out) | ((with_reducible refine gate_callee (f := 42) rfl ?_); refine goesL_ (some 17) rfl rfl Try.func42 (by kernel_rfl) rfl #[.agg #[.slice A0_0 l0_0.length c0_0, .int .i64 a0_1, .int .i64 a0_2]] rfl (by (try simp only [List.map_toArray, List.map_cons, List.map_nil]); rfl) ?_; (with_reducible refine (ring_own.calls _ _ l0_0 a0_1 a0_2 t175 t178 t179 _ ?side1 ?side2 A15.out).mono ?_); (case side1 => repeat ((exact (Kd.V_reads' HO0_0.out).2.2))); (case side2 => exact (Kd.V_reads' HO0_0.out).2.1); rintro e w25 ⟨v176, rfl, ho0, hb⟩; refine ⟨_, rfl, ?_⟩; have n0_ := Aside0.mk (Kd.V_elder' HO0_0.out (Kd.R_base ho0) hb); have n1_ := Aside0.mk (Kd.R_lower (Kd.R_newM (M := fun k_ => (w.heap.size ≤ k_)) ho0 (below_size HB.out) (fun k_ h_ => h_)) (below_size HB.out)); clear HO0_0; have HO0_0 := n0_; have HO177 := n1_; clear n0_ n1_; replace BK172 := kb_ BK172 hb; replace BK173 := kb_ BK173 hb; replace HB := hb_ HB hb; (try clear hb); (try clear hb2); (try clear hk); (try clear hi); (try clear ho0); obtain ⟨Ao26, co26, eo26⟩ := Kd.R_slice HO177.out; subst eo26; obtain ⟨_, _, _, _, _, _⟩ := bk3_ BK172.out; have p180 : 0 ≤ (t178 : Int) := of_decide_eq_true (by (with_reducible assumption)); have q180 : t178 < (t175.length : Int) := of_decide_eq_true (by (with_reducible assumption)); obtain ⟨ad180, e180, hx180_0⟩ := Kd.at_int (Kd.R_reads' HO177.out).2.2 t178 p180 q180; cases e180; have hn180_0 : ad180.block ≠ gb172 := Kd.own_blk (Kd.R_ne HO177.out BK172.out (by decide)); have hn180_1 : ad180.block ≠ gb172 := Kd.own_blk (Kd.R_ne HO177.out BK172.out (by decide)); have hn180_2 : ad180.block ≠ gb172 := Kd.own_blk (Kd.R_ne HO177.out BK172.out (by decide)); replace hx180_0 := (cell_far (p := ⟨gb172, 0, none⟩) (by (rw [add_block]; exact hn180_0)) (.slice (some ad180) t175.length co26)).trans hx180_0; replace hx180_0 := (cell_far (p := ⟨gb172, 1, none⟩) (by (rw [add_block]; exact hn180_1)) (.int .i64 t178)).trans hx180_0; replace hx180_0 := (cell_far (p := ⟨gb172, 2, none⟩) (by (rw [add_block]; exact hn180_2)) (.int .i64 t179)).trans hx180_0; clear hn180_0; clear hn180_1; clear hn180_2; replace p180 := eq_true p180; replace q180 := eq_true q180) | ((with_reducible refine gate_callee (f := 41) rfl ?_); refine goesL_ (some 25) rfl rfl Try.func41 (by kernel_rfl) rfl #[.agg #[.slice (some ad180) t175.length co26, .int .i64 t178, .int .i64 t179], .int .i64 1] rfl (by (try simp only [List.map_toArray, List.map_cons, List.map_nil]); rfl) ?_; (with_reducible refine (ring_at.calls _ _ t175 t178 t179 1 t181 _ ?side1 ?side2 A18.out).mono ?_); (case side1 => refine (Kd.R_reads' (e := 3) (base := w.heap.size) (ok := fun k_ => ((w.heap.size ≤ k_) ∧ True)) (n := t175.length) (c := co26) ?_).2.2; exact (by exact (Kd.R_mono (Kd.R_far (p := ⟨gb172, 2, none⟩) (Kd.R_far (p := ⟨gb172, 1, none⟩) (Kd.R_far (p := ⟨gb172, 0, none⟩) (Kd.R_types HO177.out BK172.out (by decide)) (fun _ hk => hk.2) (.slice (some ad180) t175.length co26)) (fun _ hk => hk.2) (.int .i64 t178)) (fun _ hk => hk.2) (.int .i64 t179)) (fun _ h_ => h_.1)))); (case side2 => exact (Kd.R_reads' HO177.out).2.1); rintro e w28 ⟨rfl, hb⟩; refine ⟨_, rfl, ?_⟩; have n0_ := Aside0.mk (Kd.V_below (by exact (Kd.V_mono (vf3_ (Kd.V_mono HO0_0.out (fun k_ hk => (⟨hk, hk.1.1.2⟩ : _ ∧ k_ ≠ gb172))) (fun _ hk => hk.2)) (fun _ h_ => h_.1))) hb); have n1_ := Aside0.mk (Kd.R_below (by exact (Kd.R_mono (Kd.R_far (p := ⟨gb172, 2, none⟩) (Kd.R_far (p := ⟨gb172, 1, none⟩) (Kd.R_far (p := ⟨gb172, 0, none⟩) (Kd.R_types HO177.out BK172.out (by decide)) (fun _ hk => hk.2) (.slice (some ad180) t175.length co26)) (fun _ hk => hk.2) (.int .i64 t178)) (fun _ hk => hk.2) (.int .i64 t179)) (fun _ h_ => h_.1))) hb); have n2_ := Aside0.mk (blk_below (g := gb172) (o := .cells #[.slice (some ad180) t175.length co26, .int .i64 t178, .int .i64 t179] 24 (0, 0)) (by exact bp3_ BK172.out) hb); have n3_ := Aside0.mk (blk_below (g := gb173) (o := .cells #[.slice none 0 0, .int .i64 0, .int .i64 0] 24 (0, 0)) (by refine blk_far ?_ NB173_172.out _; refine blk_far ?_ NB173_172.out _; refine blk_far ?_ NB173_172.out _; exact BK173.out) hb); have n4_ := Aside0.mk (below_step (by repeat ((with_reducible first | exact HB.out | refine below_set ?_ GE172.out))) hb); clear HO0_0 HO177 BK172 BK173 HB; have HO0_0 := n0_; have HO177 := n1_; have BK172 := n2_; have BK173 := n3_; have HB := n4_; clear n0_ n1_ n2_ n3_ n4_; (try clear hb); (try clear hb2); (try clear hk); (try clear hi); obtain ⟨_, _, _, _, _, _⟩ := bk3_ BK172.out))
          have n0_ : Aside0 (Kd.V (Kd.int .i64) 3 ((w28.setCell ⟨gb172, 1, none⟩ (.int .i64 t181)).setCell ⟨gb172, 2, none⟩ (.int .i64 (wrap64 (t179 - 1)))) w.heap.size (fun k_ => (P0_0_ k_ ∨ w.heap.size ≤ k_) ∧ some k_ ≠ (.slice (some ad180) t175.length co26 : Value).ownBlock ∧ k_ ≠ gb172 ∧ k_ ≠ gb173) (.slice A0_0 l0_0.length c0_0) l0_0) := ⟨by exact Kd.V_mono (Kd.V_far (p := ⟨gb172, 2, none⟩) (Kd.V_far (p := ⟨gb172, 1, none⟩) (Kd.V_mono HO0_0.out (fun k_ hk => (⟨hk, hk.1.1.2⟩ : _ ∧ k_ ≠ gb172))) (fun _ hk => hk.2) (.int .i64 t181)) (fun _ hk => hk.2) (.int .i64 (wrap64 (t179 - 1)))) (fun _ hk => ⟨hk.1.1.1.1, ⟨hk.1.2, ⟨hk.1.1.1.2, hk.1.1.2⟩⟩⟩)⟩
          have n1_ : Aside0 (Kd.R (Kd.int .i64) 3 ((w28.setCell ⟨gb172, 1, none⟩ (.int .i64 t181)).setCell ⟨gb172, 2, none⟩ (.int .i64 (wrap64 (t179 - 1)))) w.heap.size (fun k_ => (w.heap.size ≤ k_)) (.slice (some ad180) t175.length co26) t175) := ⟨by exact Kd.R_mono (Kd.R_far (p := ⟨gb172, 2, none⟩) (Kd.R_far (p := ⟨gb172, 1, none⟩) (Kd.R_types HO177.out BK172.out (by decide)) (fun _ hk => hk.2) (.int .i64 t181)) (fun _ hk => hk.2) (.int .i64 (wrap64 (t179 - 1)))) (fun _ hk => hk.1.1)⟩
          have n2_ : Aside0 (((w28.setCell ⟨gb172, 1, none⟩ (.int .i64 t181)).setCell ⟨gb172, 2, none⟩ (.int .i64 (wrap64 (t179 - 1)))).heap[gb172]? = some (.cells #[.slice (some ad180) t175.length co26, .int .i64 t181, .int .i64 (wrap64 (t179 - 1))] 24 (0, 0))) := ⟨by refine blk_put (cs := #[.slice (some ad180) t175.length co26, .int .i64 t181, .int .i64 t179]) ?_ 2 _ rfl; refine blk_put (cs := #[.slice (some ad180) t175.length co26, .int .i64 t178, .int .i64 t179]) ?_ 1 _ rfl; exact BK172.out⟩
          have n3_ : Aside0 (((w28.setCell ⟨gb172, 1, none⟩ (.int .i64 t181)).setCell ⟨gb172, 2, none⟩ (.int .i64 (wrap64 (t179 - 1)))).heap[gb173]? = some (.cells #[.slice none 0 0, .int .i64 0, .int .i64 0] 24 (0, 0))) := ⟨by refine blk_far ?_ NB173_172.out _; refine blk_far ?_ NB173_172.out _; exact BK173.out⟩
          have n4_ : Aside0 (Below w.heap.size w ((w28.setCell ⟨gb172, 1, none⟩ (.int .i64 t181)).setCell ⟨gb172, 2, none⟩ (.int .i64 (wrap64 (t179 - 1))))) := ⟨by repeat ((with_reducible first | exact HB.out | refine below_set ?_ GE172.out))⟩
          (try clear HO0_0)
          (try clear HO177)
          (try clear BK172)
          (try clear BK173)
          (try clear HB)
          generalize ((w28.setCell ⟨gb172, 1, none⟩ (.int .i64 t181)).setCell ⟨gb172, 2, none⟩ (.int .i64 (wrap64 (t179 - 1)))) = w30 at n0_ n1_ n2_ n3_ n4_ ⊢
          have HO0_0 := n0_
          have HO177 := n1_
          have BK172 := n2_
          have BK173 := n3_
          have HB := n4_
          clear n0_ n1_ n2_ n3_ n4_
          have n0_ := Aside0.mk (Kd.V_drew HO0_0.out)
          have n1_ := Aside0.mk (Kd.R_drew HO177.out)
          have n2_ := Aside0.mk (blk_drew BK172.out)
          have n3_ := Aside0.mk (blk_drew BK173.out)
          have n4_ := Aside0.mk (below_drew1 HB.out)
          clear HO0_0 HO177 BK172 BK173 HB; have HO0_0 := n0_; have HO177 := n1_; have BK172 := n2_; have BK173 := n3_; have HB := n4_; clear n0_ n1_ n2_ n3_ n4_
          refine start_ (n := 5) (S := fun w' => w'.cell? ⟨gb172, 0, none⟩ = some (.slice (some ad180) t175.length co26) ∧ w'.cell? ⟨gb172, 1, none⟩ = some (.int .i64 t181) ∧ w'.cell? ⟨gb172, 2, none⟩ = some (.int .i64 (wrap64 (t179 - 1)))) (ds := []) #[false, false, false, false, false] (by kernel_rfl) rfl rfl (bh3_ BK172.out) (fun hHeld => ?_)
          generalize w30.drew = w31 at HO0_0 HO177 BK172 BK173 HB hHeld ⊢
          refine pure_ (i := 0) (N := some 31) (v := ?_) (a' := ?_) (bm 5 0x1) rfl rfl (by kernel_rfl) (fun _ _ _ h => h) (Or.inl ⟨by rfl, ?_⟩) ?_ ?_
          rotate_left
          · intro w'
            go_simp
            with_reducible rfl
          rotate_left
          · simp only [Act.put, List.setIfInBounds_toArray, List.set_cons_zero, List.set_cons_succ, i64_w, i32_w]
            rfl
          refine pure_ (i := 2) (N := some 2) (v := ?_) (a' := ?_) (bm 5 0x5) rfl rfl (by kernel_rfl) (fun _ _ _ h => h) (Or.inl ⟨by rfl, ?_⟩) ?_ ?_
          rotate_left
          · intro w'
            go_simp
            with_reducible rfl
          rotate_left
          · simp only [Act.put, List.setIfInBounds_toArray, List.set_cons_zero, List.set_cons_succ, i64_w, i32_w]
            rfl
          refine take_ (i := 1) (N := some 32) (v := ?_) (a' := ?_) (bm 5 0x7) rfl rfl (by kernel_rfl) (fun _ _ _ h => h) (Or.inl ⟨by rfl, ?_⟩) hHeld ?_ ?_
          rotate_left
          · rintro w' ⟨s0, s1, s2⟩
            go_simp
            with_reducible rfl
          rotate_left
          · simp only [Act.put, List.setIfInBounds_toArray, List.set_cons_zero, List.set_cons_succ, i64_w, i32_w]
            rfl
          refine one_ (i := 3) (N := none) (bm 5 0xf) rfl rfl (by kernel_rfl) (by decide) (fun K hK => ?_)
          have hs32 : w31.cell? ⟨gb173, 0, none⟩ = some (.slice none 0 0) := (blk_cell BK173.out 0).trans rfl
          have hfs32 := blk_frozen BK173.out 0
          have hns32_0 := NB172_173.out
          have hms32_0 := NB173_172.out
          have hs33 : w31.cell? ⟨gb173, 1, none⟩ = some (.int .i64 0) := (blk_cell BK173.out 1).trans rfl
          have hfs33 := blk_frozen BK173.out 1
          have hns33_0 := NB172_173.out
          have hms33_0 := NB173_172.out
          have hs34 : w31.cell? ⟨gb173, 2, none⟩ = some (.int .i64 0) := (blk_cell BK173.out 2).trans rfl
          have hfs34 := blk_frozen BK173.out 2
          have hns34_0 := NB172_173.out
          have hms34_0 := NB173_172.out
          refine skip_ (w1 := ?_) (by rfl) rfl ?_ ?_
          rotate_left
          · go_simp
            rfl
          refine hK.out _ _ ⟨((cell_far (p := ⟨gb173, _, none⟩) NB172_173.out _).trans (((cell_far (p := ⟨gb173, _, none⟩) NB172_173.out _).trans (((cell_far (p := ⟨gb173, _, none⟩) NB172_173.out _).trans (hHeld.1)))))), ((cell_far (p := ⟨gb173, _, none⟩) NB172_173.out _).trans (((cell_far (p := ⟨gb173, _, none⟩) NB172_173.out _).trans (((cell_far (p := ⟨gb173, _, none⟩) NB172_173.out _).trans (hHeld.2.1)))))), ((cell_far (p := ⟨gb173, _, none⟩) NB172_173.out _).trans (((cell_far (p := ⟨gb173, _, none⟩) NB172_173.out _).trans (((cell_far (p := ⟨gb173, _, none⟩) NB172_173.out _).trans (hHeld.2.2))))))⟩ (fun hHeld => ?_)
          clear hK K
          refine pure_ (i := 4) (N := some 4) (v := ?_) (a' := ?_) (bm 5 0x1f) rfl rfl (by kernel_rfl) (fun _ _ _ h => h) (Or.inl ⟨by rfl, ?_⟩) ?_ ?_
          rotate_left
          · intro w'
            go_simp
            with_reducible rfl
          rotate_left
          · simp only [Act.put, List.setIfInBounds_toArray, List.set_cons_zero, List.set_cons_succ, i64_w, i32_w]
            rfl
          refine done_ (by kernel_rfl) ?_
          try go_wp2
          refine bodyPost_ret (results_list (rs := [.tmp 2, .cell 3 24, .tmp 4]) rfl (by simp) (.tmp (.cell gb173 24 #[.slice (some ad180) t175.length co26, .int .i64 t181, .int .i64 (wrap64 (t179 - 1))] (0, 0) _ rfl (by exact bp3_ BK173.out) Try.underlying24 rfl (by kernel_rfl) (.tmp .nil)))) rfl ?_
          exact ⟨_, by rfl, Kd.V_mono (Kd.R_V (by exact Kd.R_mono (Kd.R_far (p := ⟨gb173, 2, none⟩) (Kd.R_far (p := ⟨gb173, 1, none⟩) (Kd.R_far (p := ⟨gb173, 0, none⟩) (Kd.R_types HO177.out BK173.out (by decide)) (fun _ hk => hk.2) (.slice (some ad180) t175.length co26)) (fun _ hk => hk.2) (.int .i64 t181)) (fun _ hk => hk.2) (.int .i64 (wrap64 (t179 - 1)))) (fun _ hk => hk.1))) (fun k_ hk => by (exact (.inr (hk)))), by repeat ((with_reducible first | exact HB.out | refine below_set ?_ GE173.out))⟩
        · rw [if_neg c17] at H
          exact absurd H (by simp)
      · rw [if_neg c16] at H
        exact absurd H (by simp)
  · replace c3 := Bool.eq_false_iff.mpr c3
    subst c3
    have H1 : (some (0, l0_0, a0_1, a0_2, 1)) = some (r1, r2, r3, r4, r5) := by rw [if_neg (show ¬ (false = true) by decide)] at H; exact H
    clear H
    have H := H1
    clear H1
    simp only [Option.some.injEq, Prod.mk.injEq] at H
    obtain ⟨rfl, rfl, rfl, rfl, rfl⟩ := H
    go_enter Try.func23, Try.ntmps23
    try go_wp2_with (first | ((with_reducible refine gate_dst (N := 1) rfl ?_); refine box_event ?hg (N := 1) ?hd (cs := #[.slice A0_0 l0_0.length c0_0, .int .i64 a0_1, .int .i64 a0_2]) (t := 24) ?hr ?_; (case hd => rfl); (case hg => rfl); (case hr => (go_simp; done)); intro gb172 hg w35 hbox hb; have n0_ := Aside0.mk (Kd.V_below (Kd.V_elderB HO0_0.out gb172 (Nat.le_of_eq hg.symm)) hb); have n2_ := Aside0.mk (hbox); have n3_ := Aside0.mk ((by rw [hg]; exact (below_size HB.out) : w.heap.size ≤ gb172)); have n4_ := Aside0.mk ((by rw [hg]; exact (below_size HB.out) : w.heap.size ≤ gb172)); clear HO0_0; have HO0_0 := n0_; have BK172 := n2_; have GW172 := n3_; have GE172 := n4_; clear n0_ n2_ n3_ n4_; replace HB := hb_ HB hb; clear hb hbox hg) | ((with_reducible refine gate_dst (N := 3) rfl ?_); refine box_event ?hg (N := 3) ?hd (cs := #[.slice none 0 0, .int .i64 0, .int .i64 0]) (t := 24) ?hr ?_; (case hd => rfl); (case hg => rfl); (case hr => (go_simp; done)); intro gb173 hg w36 hbox hb; have n0_ := Aside0.mk (Kd.V_below (Kd.V_elderB HO0_0.out gb173 (Nat.le_of_eq hg.symm)) hb); have n3_ := Aside0.mk (hbox); have n4_ := Aside0.mk ((by rw [hg]; exact (below_size HB.out) : w.heap.size ≤ gb173)); have n5_ := Aside0.mk ((by rw [hg]; exact (below_size HB.out) : w.heap.size ≤ gb173)); have n6_ := Aside0.mk ((by rw [hg]; exact Nat.ne_of_lt (blk_lt BK172.out) : gb172 ≠ gb173)); have n7_ := Aside0.mk ((by rw [hg]; exact Nat.ne_of_gt (blk_lt BK172.out) : gb173 ≠ gb172)); clear HO0_0; have HO0_0 := n0_; have BK173 := n3_; have GW173 := n4_; have GE173 := n5_; have NB172_173 := n6_; have NB173_172 := n7_; clear n0_ n3_ n4_ n5_ n6_ n7_; replace BK172 := kb_ BK172 hb; replace HB := hb_ HB hb; clear hb hbox hg; have hnb37 := NB172_173.out; have hnc37 := NB173_172.out; obtain ⟨_, _, _, _, _, _⟩ := bk3_ BK172.out) | ((with_reducible refine gate_callee (f := 17) rfl ?_); refine goesL_ (some 8) rfl rfl Try.func17 (by kernel_rfl) rfl #[.agg #[.slice A0_0 l0_0.length c0_0, .int .i64 a0_1, .int .i64 a0_2]] rfl (by (try simp only [List.map_toArray, List.map_cons, List.map_nil]); rfl) ?_; (with_reducible refine (ring_Right.calls _ _ l0_0 a0_1 a0_2 false _ ?side1 ?side2 A2.out).mono ?_); (case side1 => repeat ((exact (Kd.V_reads' HO0_0.out).2.2))); (case side2 => exact (Kd.V_reads' HO0_0.out).2.1); rintro e w39 ⟨rfl, hb⟩; refine ⟨_, rfl, ?_⟩; replace HO0_0 := vb_ HO0_0 hb; replace BK172 := kb_ BK172 hb; replace BK173 := kb_ BK173 hb; replace HB := hb_ HB hb; (try clear hb); (try clear hb2); (try clear hk); (try clear hi)))
    have n0_ := Aside0.mk (Kd.V_drew HO0_0.out)
    have n1_ := Aside0.mk (blk_drew BK172.out)
    have n2_ := Aside0.mk (blk_drew BK173.out)
    have n3_ := Aside0.mk (below_drew1 HB.out)
    clear HO0_0 BK172 BK173 HB; have HO0_0 := n0_; have BK172 := n1_; have BK173 := n2_; have HB := n3_; clear n0_ n1_ n2_ n3_
    refine start_ (n := 4) (S := fun w' => w'.cell? ⟨gb172, 0, none⟩ = some (.slice A0_0 l0_0.length c0_0) ∧ w'.cell? ⟨gb172, 1, none⟩ = some (.int .i64 a0_1) ∧ w'.cell? ⟨gb172, 2, none⟩ = some (.int .i64 a0_2)) (ds := []) #[false, false, false, false] (by kernel_rfl) rfl rfl (bh3_ BK172.out) (fun hHeld => ?_)
    generalize w39.drew = w40 at HO0_0 BK172 BK173 HB hHeld ⊢
    refine pure_ (i := 1) (N := some 2) (v := ?_) (a' := ?_) (bm 4 0x2) rfl rfl (by kernel_rfl) (fun _ _ _ h => h) (Or.inl ⟨by rfl, ?_⟩) ?_ ?_
    rotate_left
    · intro w'
      go_simp
      with_reducible rfl
    rotate_left
    · simp only [Act.put, List.setIfInBounds_toArray, List.set_cons_zero, List.set_cons_succ, i64_w, i32_w]
      rfl
    refine take_ (i := 0) (N := some 10) (v := ?_) (a' := ?_) (bm 4 0x3) rfl rfl (by kernel_rfl) (fun _ _ _ h => h) (Or.inl ⟨by rfl, ?_⟩) hHeld ?_ ?_
    rotate_left
    · rintro w' ⟨s0, s1, s2⟩
      go_simp
      with_reducible rfl
    rotate_left
    · simp only [Act.put, List.setIfInBounds_toArray, List.set_cons_zero, List.set_cons_succ, i64_w, i32_w]
      rfl
    refine one_ (i := 2) (N := none) (bm 4 0x7) rfl rfl (by kernel_rfl) (by decide) (fun K hK => ?_)
    have hs41 : w40.cell? ⟨gb173, 0, none⟩ = some (.slice none 0 0) := (blk_cell BK173.out 0).trans rfl
    have hfs41 := blk_frozen BK173.out 0
    have hns41_0 := NB172_173.out
    have hms41_0 := NB173_172.out
    have hs42 : w40.cell? ⟨gb173, 1, none⟩ = some (.int .i64 0) := (blk_cell BK173.out 1).trans rfl
    have hfs42 := blk_frozen BK173.out 1
    have hns42_0 := NB172_173.out
    have hms42_0 := NB173_172.out
    have hs43 : w40.cell? ⟨gb173, 2, none⟩ = some (.int .i64 0) := (blk_cell BK173.out 2).trans rfl
    have hfs43 := blk_frozen BK173.out 2
    have hns43_0 := NB172_173.out
    have hms43_0 := NB173_172.out
    refine skip_ (w1 := ?_) (by rfl) rfl ?_ ?_
    rotate_left
    · go_simp
      rfl
    refine hK.out _ _ ⟨((cell_far (p := ⟨gb173, _, none⟩) NB172_173.out _).trans (((cell_far (p := ⟨gb173, _, none⟩) NB172_173.out _).trans (((cell_far (p := ⟨gb173, _, none⟩) NB172_173.out _).trans (hHeld.1)))))), ((cell_far (p := ⟨gb173, _, none⟩) NB172_173.out _).trans (((cell_far (p := ⟨gb173, _, none⟩) NB172_173.out _).trans (((cell_far (p := ⟨gb173, _, none⟩) NB172_173.out _).trans (hHeld.2.1)))))), ((cell_far (p := ⟨gb173, _, none⟩) NB172_173.out _).trans (((cell_far (p := ⟨gb173, _, none⟩) NB172_173.out _).trans (((cell_far (p := ⟨gb173, _, none⟩) NB172_173.out _).trans (hHeld.2.2))))))⟩ (fun hHeld => ?_)
    clear hK K
    refine pure_ (i := 3) (N := some 4) (v := ?_) (a' := ?_) (bm 4 0xf) rfl rfl (by kernel_rfl) (fun _ _ _ h => h) (Or.inl ⟨by rfl, ?_⟩) ?_ ?_
    rotate_left
    · intro w'
      go_simp
      with_reducible rfl
    rotate_left
    · simp only [Act.put, List.setIfInBounds_toArray, List.set_cons_zero, List.set_cons_succ, i64_w, i32_w]
      rfl
    refine done_ (by kernel_rfl) ?_
    try go_wp2
    refine bodyPost_ret (results_list (rs := [.tmp 2, .cell 3 24, .tmp 4]) rfl (by simp) (.tmp (.cell gb173 24 #[.slice A0_0 l0_0.length c0_0, .int .i64 a0_1, .int .i64 a0_2] (0, 0) _ rfl (by exact bp3_ BK173.out) Try.underlying24 rfl (by kernel_rfl) (.tmp .nil)))) rfl ?_
    exact ⟨_, by rfl, by exact Kd.V_mono (vf3_ (Kd.V_mono HO0_0.out (fun k_ hk => (⟨hk, hk.2⟩ : _ ∧ k_ ≠ gb173))) (fun _ hk => hk.2)) (fun _ hk => hk.1.1.1), by repeat ((with_reducible first | exact HB.out | refine below_set ?_ GE173.out))⟩

/-! ### port_Read: function 29 -/
def port_Read.j0 : Nat → List (S76) → Int → Int → Bool → Option (Int × (List (S76)) × Int)
  | 0, _, _, _, _ => none
  | k + 1, x0, x1, x2, x18 => if x18 = true then (some (0, x0, 4)) else (if 0 ≤ x2 then (if x2 < (x0.length : Int) then (if ((rd_T76 x0 x2).f0.f1) = x1 then ((ring_Pop.f ((rd_T76 x0 x2).f2.f0) ((rd_T76 x0 x2).f2.f1) ((rd_T76 x0 x2).f2.f2)).bind fun bt186 => (if bt186.2.2.2.2 = 0 then ((port_with.f x0 x2 ((rd_T76 x0 x2).f0.f0) ((rd_T76 x0 x2).f0.f1) ((rd_T76 x0 x2).f0.f2) ((rd_T76 x0 x2).f1.f0) ((rd_T76 x0 x2).f1.f1) ((rd_T76 x0 x2).f1.f2) bt186.2.1 bt186.2.2.1 bt186.2.2.2.1).bind fun t194 => (some (bt186.1, t194, 0))) else (some (0, x0, bt186.2.2.2.2)))) else (some (0, x0, 7))) else (none)) else (none))
def port_Read.f (k : Nat) (l0 : List (S76)) (a1 : Int) (a2 : Int) : Option (Int × (List (S76)) × Int) := (port_Right.f k l0).bind fun t182 => (if t182 = true then (if a2 < 0 then (port_Read.j0 k l0 a1 a2 true) else (port_Read.j0 k l0 a1 a2 (decide (a2 ≥ (l0.length : Int))))) else (some (0, l0, 1)))
theorem port_Read.mono_l : ∀ k, (∀ y0 y1 y2 y3, LeO (port_Read.j0 k y0 y1 y2 y3) (port_Read.j0 (k + 1) y0 y1 y2 y3))
  | 0 => fun _ _ _ _ r h => by simp [port_Read.j0] at h
  | k + 1 => by
    have ih0 := port_Read.mono_l k
    · intro y0 y1 y2 y3
      unfold port_Read.j0
      repeat' (with_reducible exact LeO.refl _)
theorem port_Read.mono : ∀ a0 a1 a2 k, LeO (port_Read.f k a0 a1 a2) (port_Read.f (k + 1) a0 a1 a2) := by
  intro a0 a1 a2 k
  have ih0 := port_Read.mono_l k
  unfold port_Read.f
  repeat' first | (with_reducible exact ih0 _ _ _ _) | (with_reducible exact port_Right.mono _ _) | (with_reducible exact LeO.refl _) | (with_reducible refine LeO.ite ?_ ?_) | (with_reducible refine LeO.bind ?_ (fun _ => ?_))
set_option maxHeartbeats 8000000 in
set_option maxRecDepth 100000 in
theorem port_Read.calls (k : Nat) (P0_ : Nat → Prop) (A0 : Option Addr) (c0 : Nat) (l0 : List (S76)) (a1 : Int) (a2 : Int) (r1 : Int) (r2 : List (S76)) (r3 : Int) (w : World) (hs0 : Kd.V k76 76 w w.heap.size (fun k_ => P0_ k_) (.slice A0 l0.length c0) l0) (h : port_Read.f k l0 a1 a2 = some (r1, r2, r3)) :
    Calls Try.prog 29 #[.slice A0 l0.length c0, .int .i64 a1, .int .i64 a2] w fun e w' => ∃ v1_ : Value, e = .returned (.tuple #[.int .i64 r1, v1_, .int .i64 r3]) ∧ Kd.V k76 76 w' w.heap.size (fun k_ => (P0_ k_ ∨ w.heap.size ≤ k_)) v1_ r2 ∧ Below w.heap.size w w' := by
  have hu76 := Try.underlying76
  have hu24 := Try.underlying24
  have HO0 := Aside0.mk (show Kd.V k76 76 w w.heap.size (fun k_ => (P0_ k_ ∨ w.heap.size ≤ k_)) (.slice A0 l0.length c0) l0 from Kd.V_mono hs0 (fun k_ hk => .inl hk))
  have HB := Aside0.mk (Below.refl w.heap.size w)
  have H : ((port_Right.f k l0).bind fun t182 => (if t182 = true then (if a2 < 0 then (port_Read.j0 k l0 a1 a2 true) else (port_Read.j0 k l0 a1 a2 (decide (a2 ≥ (l0.length : Int))))) else (some (0, l0, 1)))) = some (r1, r2, r3) := h
  clear h
  replace H := Option.bind_eq_some_iff.mp H
  obtain ⟨t182, A40, H⟩ := H
  replace H : (if t182 = true then (if a2 < 0 then (port_Read.j0 k l0 a1 a2 true) else (port_Read.j0 k l0 a1 a2 (decide (a2 ≥ (l0.length : Int))))) else (some (0, l0, 1))) = some (r1, r2, r3) := H
  have A4 := Aside0.mk A40
  clear A40
  by_cases c5 : t182 = true
  · subst c5
    have H1 : (if a2 < 0 then (port_Read.j0 k l0 a1 a2 true) else (port_Read.j0 k l0 a1 a2 (decide (a2 ≥ (l0.length : Int))))) = some (r1, r2, r3) := by rw [if_pos rfl] at H; exact H
    clear H
    have H := H1
    clear H1
    have HC6 := Aside0.mk H
    clear H
    go_enter Try.func29, Try.ntmps29
    go_upto_region 3 with (((with_reducible refine gate_callee (f := 31) rfl ?_); refine goesL_ (some 15) rfl rfl Try.func31 (by kernel_rfl) rfl #[.slice A0 l0.length c0] rfl (by (try simp only [List.map_toArray, List.map_cons, List.map_nil]); rfl) ?_; (with_reducible refine (port_Right.calls k _ _ l0 true _ ?side1 ?side2 A4.out).mono ?_); (case side1 => repeat ((exact (Kd.V_reads' HO0.out).2.2))); (case side2 => exact (Kd.V_reads' HO0.out).2.1); rintro e w7 ⟨rfl, hb⟩; refine ⟨_, rfl, ?_⟩; replace HO0 := vb_ HO0 hb; replace HB := hb_ HB hb; (try clear hb); (try clear hb2); (try clear hk); (try clear hi)))
    (try simp only [Act.put, List.setIfInBounds_toArray, List.set_cons_zero, List.set_cons_succ])
    go_cut [18] (fun v18 wc => ∃ (kq : Nat) (x18_5 : Bool), v18 = .bool x18_5 ∧ Aside0 (port_Read.j0 kq l0 a1 a2 x18_5 = some (r1, r2, r3)) ∧ Aside0 (kq ≤ k) ∧ Aside0 (Kd.V k76 76 wc w.heap.size (fun k_ => (P0_ k_ ∨ w.heap.size ≤ k_)) (.slice A0 l0.length c0) l0) ∧ Aside0 (Below w.heap.size w wc))
    case first =>
      have H := HC6.out
      clear HC6
      by_cases c8 : a2 < 0
      · rw [if_pos c8] at H
        have c8b0 : decide (a2 < 0) = true := decide_eq_true c8
        clear c8
        (skip)
        have H' := Aside0.mk H
        clear H
        go_wp2
        go_meet
        case rel => exact ⟨_, (true), (by rfl), H', ⟨by omega⟩, ⟨HO0.out⟩, ⟨HB.out⟩⟩
      · rw [if_neg c8] at H
        have c8b0 : decide (a2 < 0) = false := decide_eq_false c8
        clear c8
        (skip)
        have H' := Aside0.mk H
        clear H
        go_wp2
        go_meet
        case rel => exact ⟨_, (decide (a2 ≥ (l0.length : Int))), (by rfl), H', ⟨by omega⟩, ⟨HO0.out⟩, ⟨HB.out⟩⟩
    case rest =>
      clear HC6
      try clear c2
      try clear p2
      try clear c3
      try clear c5
      try clear c8
      try clear c8b0
      obtain ⟨kq, x18_5, rfl, HA, HJ5, HO_0, HB⟩ := hcut
      cases kq with
      | zero => exact absurd HA.out (by simp [port_Read.j0])
      | succ kj5 =>
        have H := HA.out
        clear HA
        simp only [port_Read.j0] at H
        by_cases c9 : x18_5 = true
        · subst c9
          have H1 : (some (0, l0, 4)) = some (r1, r2, r3) := by rw [if_pos rfl] at H; exact H
          clear H
          have H := H1
          clear H1
          simp only [Option.some.injEq, Prod.mk.injEq] at H
          obtain ⟨rfl, rfl, rfl⟩ := H
          go_wp2
          go_ret3
          exact ⟨_, by rfl, by exact HO_0.out, by repeat ((with_reducible (exact HB.out)))⟩
        · replace c9 := Bool.eq_false_iff.mpr c9
          subst c9
          have H1 : (if 0 ≤ a2 then (if a2 < (l0.length : Int) then (if ((rd_T76 l0 a2).f0.f1) = a1 then ((ring_Pop.f ((rd_T76 l0 a2).f2.f0) ((rd_T76 l0 a2).f2.f1) ((rd_T76 l0 a2).f2.f2)).bind fun bt186 => (if bt186.2.2.2.2 = 0 then ((port_with.f l0 a2 ((rd_T76 l0 a2).f0.f0) ((rd_T76 l0 a2).f0.f1) ((rd_T76 l0 a2).f0.f2) ((rd_T76 l0 a2).f1.f0) ((rd_T76 l0 a2).f1.f1) ((rd_T76 l0 a2).f1.f2) bt186.2.1 bt186.2.2.1 bt186.2.2.2.1).bind fun t194 => (some (bt186.1, t194, 0))) else (some (0, l0, bt186.2.2.2.2)))) else (some (0, l0, 7))) else (none)) else (none)) = some (r1, r2, r3) := by rw [if_neg (show ¬ (false = true) by decide)] at H; exact H
          clear H
          have H := H1
          clear H1
          by_cases c10 : 0 ≤ a2
          · rw [if_pos c10] at H
            have c10b0 : decide (0 ≤ a2) = true := decide_eq_true c10
            clear c10
            by_cases c11 : a2 < (l0.length : Int)
            · rw [if_pos c11] at H
              have c11b0 : decide (a2 < (l0.length : Int)) = true := decide_eq_true c11
              clear c11
              by_cases c12 : ((rd_T76 l0 a2).f0.f1) = a1
              · rw [if_pos c12] at H
                have c12b0 : (((rd_T76 l0 a2).f0.f1) == a1) = true := beq_iff_eq.mpr c12
                have c12b1 : (((rd_T76 l0 a2).f0.f1) != a1) = false := bne_eq_false_iff_eq.mpr c12
                clear c12
                replace H := Option.bind_eq_some_iff.mp H
                obtain ⟨⟨t186, t187, t190, t191, t192⟩, A130, H⟩ := H
                replace H : (if t192 = 0 then ((port_with.f l0 a2 ((rd_T76 l0 a2).f0.f0) ((rd_T76 l0 a2).f0.f1) ((rd_T76 l0 a2).f0.f2) ((rd_T76 l0 a2).f1.f0) ((rd_T76 l0 a2).f1.f1) ((rd_T76 l0 a2).f1.f2) t187 t190 t191).bind fun t194 => (some (t186, t194, 0))) else (some (0, l0, t192))) = some (r1, r2, r3) := H
                have A13 := Aside0.mk A130
                clear A130
                by_cases c14 : t192 = 0
                · rw [if_pos c14] at H
                  have c14b0 : (t192 == 0) = true := beq_iff_eq.mpr c14
                  have c14b1 : (t192 != 0) = false := bne_eq_false_iff_eq.mpr c14
                  clear c14
                  replace H := Option.bind_eq_some_iff.mp H
                  obtain ⟨t194, A150, H⟩ := H
                  replace H : (some (t186, t194, 0)) = some (r1, r2, r3) := H
                  have A15 := Aside0.mk A150
                  clear A150
                  simp only [Option.some.injEq, Prod.mk.injEq] at H
                  obtain ⟨rfl, rfl, rfl⟩ := H
                  have p183 : 0 ≤ (a2 : Int) := of_decide_eq_true (by (with_reducible assumption))
                  have q183 : a2 < (l0.length : Int) := of_decide_eq_true (by (with_reducible assumption))
                  obtain ⟨ad183, A183_3, c183_3, A183_6, c183_6, e183, hx183_0, hx183_1, hx183_2, hx183_3, hx183_4, hx183_5, hx183_6, hx183_7, hx183_8, hl183_3, hi183_3, hl183_6, hi183_6⟩ := at_T76 (Kd.V_reads' HO_0.out).2.2 a2 p183 q183
                  cases e183
                  obtain ⟨ce183, hce183, hMe183, hcc183⟩ := Kd.V_get HO_0.out z76 a2 p183 q183
                  obtain ⟨ua183_3, uc183_3, ua183_6, uc183_6, rfl, ul183_3, ge183_3, ul183_6, ge183_6⟩ := k76_openF hMe183
                  have hv183_3 := hcc183 3 _ rfl
                  rw [add_field _ _ 3 (by omega)] at hv183_3
                  replace hv183_3 := Option.some.inj (hv183_3.symm.trans hx183_3)
                  injection hv183_3 with hva_ hvn_ hvc_
                  rw [hva_] at ge183_3
                  rw [hvc_] at ul183_3
                  have HL183_3 := Aside0.mk (show Kd.V (Kd.int .i64) 3 _ w.heap.size _ _ ((rd_T76 l0 a2).f1.f0) from Kd.V_mk ul183_3 ge183_3)
                  clear hva_ hvn_ hvc_ ge183_3 ul183_3
                  have hv183_6 := hcc183 6 _ rfl
                  rw [add_field _ _ 6 (by omega)] at hv183_6
                  replace hv183_6 := Option.some.inj (hv183_6.symm.trans hx183_6)
                  injection hv183_6 with hva_ hvn_ hvc_
                  rw [hva_] at ge183_6
                  rw [hvc_] at ul183_6
                  have HL183_6 := Aside0.mk (show Kd.V (Kd.int .i64) 3 _ w.heap.size _ _ ((rd_T76 l0 a2).f2.f0) from Kd.V_mk ul183_6 ge183_6)
                  clear hva_ hvn_ hvc_ ge183_6 ul183_6
                  clear hcc183 hce183
                  have HR183_3 := Aside0.mk hi183_3
                  have HC183_3 := Aside0.mk hl183_3
                  clear hi183_3 hl183_3
                  have HR183_6 := Aside0.mk hi183_6
                  have HC183_6 := Aside0.mk hl183_6
                  clear hi183_6 hl183_6
                  replace p183 := eq_true p183
                  replace q183 := eq_true q183
                  have p184 : 0 ≤ (a2 : Int) := of_decide_eq_true (by (with_reducible assumption))
                  have q184 : a2 < (l0.length : Int) := of_decide_eq_true (by (with_reducible assumption))
                  obtain ⟨ad184, A184_3, c184_3, A184_6, c184_6, e184, hx184_0, hx184_1, hx184_2, hx184_3, hx184_4, hx184_5, hx184_6, hx184_7, hx184_8, hl184_3, hi184_3, hl184_6, hi184_6⟩ := at_T76 (Kd.V_reads' HO_0.out).2.2 a2 p184 q184
                  obtain rfl : ad183 = ad184 := (by injection e184)
                  obtain ⟨ce184, hce184, hMe184, hcc184⟩ := Kd.V_get HO_0.out z76 a2 p184 q184
                  obtain ⟨ua184_3, uc184_3, ua184_6, uc184_6, rfl, ul184_3, ge184_3, ul184_6, ge184_6⟩ := k76_openF hMe184
                  have hv184_3 := hcc184 3 _ rfl
                  rw [add_field _ _ 3 (by omega)] at hv184_3
                  replace hv184_3 := Option.some.inj (hv184_3.symm.trans hx184_3)
                  injection hv184_3 with hva_ hvn_ hvc_
                  rw [hva_] at ge184_3
                  rw [hvc_] at ul184_3
                  have HL184_3 := Aside0.mk (show Kd.V (Kd.int .i64) 3 _ w.heap.size _ _ ((rd_T76 l0 a2).f1.f0) from Kd.V_mk ul184_3 ge184_3)
                  clear hva_ hvn_ hvc_ ge184_3 ul184_3
                  have hv184_6 := hcc184 6 _ rfl
                  rw [add_field _ _ 6 (by omega)] at hv184_6
                  replace hv184_6 := Option.some.inj (hv184_6.symm.trans hx184_6)
                  injection hv184_6 with hva_ hvn_ hvc_
                  rw [hva_] at ge184_6
                  rw [hvc_] at ul184_6
                  have HL184_6 := Aside0.mk (show Kd.V (Kd.int .i64) 3 _ w.heap.size _ _ ((rd_T76 l0 a2).f2.f0) from Kd.V_mk ul184_6 ge184_6)
                  clear hva_ hvn_ hvc_ ge184_6 ul184_6
                  clear hcc184 hce184
                  have HR184_3 := Aside0.mk hi184_3
                  have HC184_3 := Aside0.mk hl184_3
                  clear hi184_3 hl184_3
                  have HR184_6 := Aside0.mk hi184_6
                  have HC184_6 := Aside0.mk hl184_6
                  clear hi184_6 hl184_6
                  replace p184 := eq_true p184
                  replace q184 := eq_true q184
                  have ea_ := Option.some.inj (hx183_3.symm.trans hx184_3)
                  injection ea_ with ea_ en_ ec_
                  subst ea_
                  subst ec_
                  clear en_
                  have ea_ := Option.some.inj (hx183_6.symm.trans hx184_6)
                  injection ea_ with ea_ en_ ec_
                  subst ea_
                  subst ec_
                  clear en_
                  go_wp2_with (first | ((with_reducible refine gate_dst (N := 9) rfl ?_); (try (refine gate_guard (by rfl) ?_; dsimp only)); refine box_event ?hg (N := 9) ?hd (cs := #[.int .i64 0, .int .i64 0, .int .i64 0, .slice none 0 0, .int .i64 0, .int .i64 0, .slice none 0 0, .int .i64 0, .int .i64 0]) (t := 76) ?hr ?_; (case hd => rfl); (case hg => rfl); (case hr => (go_simp; done)); intro gb185 hg w16 hbox hb; have n0_ := Aside0.mk (Kd.V_below (Kd.V_elderB HO_0.out gb185 (Nat.le_of_eq hg.symm)) hb); have n1_ := Aside0.mk (Kd.V_below (Kd.V_elderB HL183_3.out gb185 (Nat.le_of_eq hg.symm)) hb); have n2_ := Aside0.mk (Kd.V_below (Kd.V_elderB HL183_6.out gb185 (Nat.le_of_eq hg.symm)) hb); have n3_ := Aside0.mk (Kd.V_below (Kd.V_elderB HL184_3.out gb185 (Nat.le_of_eq hg.symm)) hb); have n4_ := Aside0.mk (Kd.V_below (Kd.V_elderB HL184_6.out gb185 (Nat.le_of_eq hg.symm)) hb); have n5_ := Aside0.mk (Kd.C_below (by (exact (Kd.V_reads' HL183_3.out).2.2)) hb); have n6_ := Aside0.mk (Kd.C_below (by (exact (Kd.V_reads' HL183_6.out).2.2)) hb); have n7_ := Aside0.mk (Kd.C_below (by (exact (Kd.V_reads' HL184_3.out).2.2)) hb); have n8_ := Aside0.mk (Kd.C_below (by (exact (Kd.V_reads' HL184_6.out).2.2)) hb); have n10_ := Aside0.mk (hbox); have n11_ := Aside0.mk ((by rw [hg]; exact (below_size HB.out) : w.heap.size ≤ gb185)); have n12_ := Aside0.mk ((by rw [hg]; exact (below_size HB.out) : w.heap.size ≤ gb185)); clear HO_0 HL183_3 HL183_6 HL184_3 HL184_6 HR183_3 HR183_6 HR184_3 HR184_6; have HO_0 := n0_; have HL183_3 := n1_; have HL183_6 := n2_; have HL184_3 := n3_; have HL184_6 := n4_; have HR183_3 := n5_; have HR183_6 := n6_; have HR184_3 := n7_; have HR184_6 := n8_; have BK185 := n10_; have GW185 := n11_; have GE185 := n12_; clear n0_ n1_ n2_ n3_ n4_ n5_ n6_ n7_ n8_ n10_ n11_ n12_; replace HB := hb_ HB hb; clear hb hbox hg; obtain ⟨_, _, _, _, _, _, _, _, _, _, _, _, _, _, _, _, _, _⟩ := bk9_ BK185.out) | ((with_reducible refine gate_store (t := 76) (p := 9) rfl ?_); refine store_event (t := 76) (p := 9) (v := ?vo_w18) (w1 := (((((((((w16.setCell ⟨gb185, 0, none⟩ (.int .i64 ((rd_T76 l0 a2).f0.f0))).setCell ⟨gb185, 1, none⟩ (.int .i64 ((rd_T76 l0 a2).f0.f1))).setCell ⟨gb185, 2, none⟩ (.int .i64 ((rd_T76 l0 a2).f0.f2))).setCell ⟨gb185, 3, none⟩ (.slice A183_3 ((rd_T76 l0 a2).f1.f0).length c183_3)).setCell ⟨gb185, 4, none⟩ (.int .i64 ((rd_T76 l0 a2).f1.f1))).setCell ⟨gb185, 5, none⟩ (.int .i64 ((rd_T76 l0 a2).f1.f2))).setCell ⟨gb185, 6, none⟩ (.slice A183_6 ((rd_T76 l0 a2).f2.f0).length c183_6)).setCell ⟨gb185, 7, none⟩ (.int .i64 ((rd_T76 l0 a2).f2.f1))).setCell ⟨gb185, 8, none⟩ (.int .i64 ((rd_T76 l0 a2).f2.f2)))) ?hg ?ho ?hn ?hr ?_; (case ho => rfl); (case hg => rfl); (case hn => rfl); (case hr => (go_simp; done)); intro w18 hw; have n0_ : Aside0 (Kd.V k76 76 w18 w.heap.size (fun k_ => (P0_ k_ ∨ w.heap.size ≤ k_) ∧ k_ ≠ gb185) (.slice (some ad183) l0.length c0) l0) := ⟨(by rw [hw]; exact (by exact Kd.V_mono (vf9_ (Kd.V_mono HO_0.out (fun k_ hk => (⟨hk, hk.2⟩ : _ ∧ k_ ≠ gb185))) (fun _ hk => hk.2)) (fun _ hk => ⟨hk.1.1, hk.1.2⟩)))⟩; have n1_ : Aside0 (Kd.V (Kd.int .i64) 3 w18 w.heap.size (fun k_ => (P0_ k_ ∨ w.heap.size ≤ k_) ∧ k_ ≠ gb185) (.slice A183_3 ((rd_T76 l0 a2).f1.f0).length c183_3) ((rd_T76 l0 a2).f1.f0)) := ⟨(by rw [hw]; exact (by exact Kd.V_mono (vf9_ (Kd.V_mono HL183_3.out (fun k_ hk => (⟨hk, hk.2⟩ : _ ∧ k_ ≠ gb185))) (fun _ hk => hk.2)) (fun _ hk => ⟨hk.1.1, hk.1.2⟩)))⟩; have n2_ : Aside0 (Kd.V (Kd.int .i64) 3 w18 w.heap.size (fun k_ => (P0_ k_ ∨ w.heap.size ≤ k_) ∧ k_ ≠ gb185) (.slice A183_6 ((rd_T76 l0 a2).f2.f0).length c183_6) ((rd_T76 l0 a2).f2.f0)) := ⟨(by rw [hw]; exact (by exact Kd.V_mono (vf9_ (Kd.V_mono HL183_6.out (fun k_ hk => (⟨hk, hk.2⟩ : _ ∧ k_ ≠ gb185))) (fun _ hk => hk.2)) (fun _ hk => ⟨hk.1.1, hk.1.2⟩)))⟩; have n3_ : Aside0 (Kd.V (Kd.int .i64) 3 w18 w.heap.size (fun k_ => (P0_ k_ ∨ w.heap.size ≤ k_) ∧ k_ ≠ gb185) (.slice A183_3 ((rd_T76 l0 a2).f1.f0).length c183_3) ((rd_T76 l0 a2).f1.f0)) := ⟨(by rw [hw]; exact (by exact Kd.V_mono (vf9_ (Kd.V_mono HL184_3.out (fun k_ hk => (⟨hk, hk.2⟩ : _ ∧ k_ ≠ gb185))) (fun _ hk => hk.2)) (fun _ hk => ⟨hk.1.1, hk.1.2⟩)))⟩; have n4_ : Aside0 (Kd.V (Kd.int .i64) 3 w18 w.heap.size (fun k_ => (P0_ k_ ∨ w.heap.size ≤ k_) ∧ k_ ≠ gb185) (.slice A183_6 ((rd_T76 l0 a2).f2.f0).length c183_6) ((rd_T76 l0 a2).f2.f0)) := ⟨(by rw [hw]; exact (by exact Kd.V_mono (vf9_ (Kd.V_mono HL184_6.out (fun k_ hk => (⟨hk, hk.2⟩ : _ ∧ k_ ≠ gb185))) (fun _ hk => hk.2)) (fun _ hk => ⟨hk.1.1, hk.1.2⟩)))⟩; have n5_ : Aside0 (w18.heap[gb185]? = some (.cells #[.int .i64 ((rd_T76 l0 a2).f0.f0), .int .i64 ((rd_T76 l0 a2).f0.f1), .int .i64 ((rd_T76 l0 a2).f0.f2), .slice A183_3 ((rd_T76 l0 a2).f1.f0).length c183_3, .int .i64 ((rd_T76 l0 a2).f1.f1), .int .i64 ((rd_T76 l0 a2).f1.f2), .slice A183_6 ((rd_T76 l0 a2).f2.f0).length c183_6, .int .i64 ((rd_T76 l0 a2).f2.f1), .int .i64 ((rd_T76 l0 a2).f2.f2)] 76 (0, 0))) := ⟨(by rw [hw]; exact (by exact bp9_ BK185.out))⟩; have n6_ : Aside0 (Below w.heap.size w w18) := ⟨(by rw [hw]; exact (by repeat ((with_reducible first | exact HB.out | refine below_set ?_ GE185.out))))⟩; clear hw; clear HO_0; clear HL183_3; clear HL183_6; clear HL184_3; clear HL184_6; clear BK185; clear HB; have HO_0 := n0_; have HL183_3 := n1_; have HL183_6 := n2_; have HL184_3 := n3_; have HL184_6 := n4_; have BK185 := n5_; have HB := n6_; clear n0_ n1_ n2_ n3_ n4_ n5_ n6_; obtain ⟨_, _, _, _, _, _, _, _, _, _, _, _, _, _, _, _, _, _⟩ := bk9_ BK185.out) | ((with_reducible refine gate_callee (f := 23) rfl ?_); refine goesL_ (some 45) rfl rfl Try.func23 (by kernel_rfl) rfl #[.agg #[.slice A183_6 ((rd_T76 l0 a2).f2.f0).length c183_6, .int .i64 ((rd_T76 l0 a2).f2.f1), .int .i64 ((rd_T76 l0 a2).f2.f2)]] rfl (by (try simp only [List.map_toArray, List.map_cons, List.map_nil]); rfl) ?_; (with_reducible refine (ring_Pop.calls (fun k_ => ((P0_ k_ ∨ w.heap.size ≤ k_) ∧ k_ ≠ gb185)) _ _ ((rd_T76 l0 a2).f2.f0) ((rd_T76 l0 a2).f2.f1) ((rd_T76 l0 a2).f2.f2) t186 t187 t190 t191 t192 _ ?side1 A13.out).mono ?_); (case side1 => exact HL184_6.out); rintro e w20 ⟨v188, rfl, ho0, hb⟩; refine ⟨_, rfl, ?_⟩; have n5_ := Aside0.mk (Kd.V_lower (Kd.V_mono (ok' := fun k_ => (P0_ k_ ∨ w.heap.size ≤ k_) ∧ k_ ≠ gb185) ho0 (fun k_ hk_ => ⟨Or.elim hk_ (fun hs_ => hs_.1) (fun hn_ => (.inr (Nat.le_trans (below_size HB.out) hn_))), Or.elim hk_ (fun hs_ => hs_.2) (fun hn_ => (Kd.freshB BK185.out k_ hn_))⟩)) (below_size HB.out)); have n6_ := Aside0.mk (Kd.C_below (by (exact (Kd.V_reads' HL183_3.out).2.2)) hb); have n7_ := Aside0.mk (Kd.C_below (by (exact (Kd.V_reads' HL183_6.out).2.2)) hb); have n8_ := Aside0.mk (Kd.C_below (by (exact (Kd.V_reads' HL184_3.out).2.2)) hb); have n9_ := Aside0.mk (Kd.C_below (by (exact (Kd.V_reads' HL184_6.out).2.2)) hb); clear HR183_3 HR183_6 HR184_3 HR184_6; have HO189 := n5_; have HR183_3 := n6_; have HR183_6 := n7_; have HR184_3 := n8_; have HR184_6 := n9_; clear n5_ n6_ n7_ n8_ n9_; replace HO_0 := vb_ HO_0 hb; replace HL183_3 := vb_ HL183_3 hb; replace HL183_6 := vb_ HL183_6 hb; replace HL184_3 := vb_ HL184_3 hb; replace HL184_6 := vb_ HL184_6 hb; replace BK185 := kb_ BK185 hb; replace HB := hb_ HB hb; (try clear hb); (try clear hb2); (try clear hk); (try clear hi); (try clear ho0)) | ((with_reducible refine gate_dst (N := 11) rfl ?_); (try (refine gate_guard (by rfl) ?_; dsimp only)); refine box_event ?hg (N := 11) ?hd (cs := #[.slice none 0 0, .int .i64 0, .int .i64 0]) (t := 24) ?hr ?_; (case hd => rfl); (case hg => rfl); (case hr => (go_simp; done)); intro gb193 hg w21 hbox hb; have n0_ := Aside0.mk (Kd.V_below (Kd.V_elderB HO_0.out gb193 (Nat.le_of_eq hg.symm)) hb); have n1_ := Aside0.mk (Kd.V_below (Kd.V_elderB HL183_3.out gb193 (Nat.le_of_eq hg.symm)) hb); have n2_ := Aside0.mk (Kd.V_below (Kd.V_elderB HL183_6.out gb193 (Nat.le_of_eq hg.symm)) hb); have n3_ := Aside0.mk (Kd.V_below (Kd.V_elderB HL184_3.out gb193 (Nat.le_of_eq hg.symm)) hb); have n4_ := Aside0.mk (Kd.V_below (Kd.V_elderB HL184_6.out gb193 (Nat.le_of_eq hg.symm)) hb); have n5_ := Aside0.mk (Kd.V_below (Kd.V_elderB HO189.out gb193 (Nat.le_of_eq hg.symm)) hb); have n6_ := Aside0.mk (Kd.C_below (by (exact (Kd.V_reads' HL183_3.out).2.2)) hb); have n7_ := Aside0.mk (Kd.C_below (by (exact (Kd.V_reads' HL183_6.out).2.2)) hb); have n8_ := Aside0.mk (Kd.C_below (by (exact (Kd.V_reads' HL184_3.out).2.2)) hb); have n9_ := Aside0.mk (Kd.C_below (by (exact (Kd.V_reads' HL184_6.out).2.2)) hb); have n12_ := Aside0.mk (hbox); have n13_ := Aside0.mk ((by rw [hg]; exact (below_size HB.out) : w.heap.size ≤ gb193)); have n14_ := Aside0.mk ((by rw [hg]; exact (below_size HB.out) : w.heap.size ≤ gb193)); have n15_ := Aside0.mk ((by rw [hg]; exact Nat.ne_of_lt (blk_lt BK185.out) : gb185 ≠ gb193)); have n16_ := Aside0.mk ((by rw [hg]; exact Nat.ne_of_gt (blk_lt BK185.out) : gb193 ≠ gb185)); clear HO_0 HL183_3 HL183_6 HL184_3 HL184_6 HO189 HR183_3 HR183_6 HR184_3 HR184_6; have HO_0 := n0_; have HL183_3 := n1_; have HL183_6 := n2_; have HL184_3 := n3_; have HL184_6 := n4_; have HO189 := n5_; have HR183_3 := n6_; have HR183_6 := n7_; have HR184_3 := n8_; have HR184_6 := n9_; have BK193 := n12_; have GW193 := n13_; have GE193 := n14_; have NB185_193 := n15_; have NB193_185 := n16_; clear n0_ n1_ n2_ n3_ n4_ n5_ n6_ n7_ n8_ n9_ n12_ n13_ n14_ n15_ n16_; replace BK185 := kb_ BK185 hb; replace HB := hb_ HB hb; clear hb hbox hg; obtain ⟨Ao22, co22, eo22⟩ := Kd.V_slice HO189.out; subst eo22; have hnb23 := NB193_185.out; have hnc23 := NB185_193.out; obtain ⟨_, _, _, _, _, _⟩ := bk3_ BK193.out) | ((with_reducible refine gate_store (t := 24) (p := 11) rfl ?_); refine store_event (t := 24) (p := 11) (v := ?vo_w25) (w1 := (((w21.setCell ⟨gb193, 0, none⟩ (.slice Ao22 t187.length co22)).setCell ⟨gb193, 1, none⟩ (.int .i64 t190)).setCell ⟨gb193, 2, none⟩ (.int .i64 t191))) ?hg ?ho ?hn ?hr ?_; (case ho => rfl); (case hg => rfl); (case hn => rfl); (case hr => (go_simp; done)); intro w25 hw; have n0_ : Aside0 (Kd.V k76 76 w25 w.heap.size (fun k_ => (P0_ k_ ∨ w.heap.size ≤ k_) ∧ k_ ≠ gb185 ∧ k_ ≠ gb193) (.slice (some ad183) l0.length c0) l0) := ⟨(by rw [hw]; exact (by exact Kd.V_mono (vf3_ (Kd.V_mono HO_0.out (fun k_ hk => (⟨hk, hk.2⟩ : _ ∧ k_ ≠ gb193))) (fun _ hk => hk.2)) (fun _ hk => ⟨hk.1.1.1, ⟨hk.1.1.2, hk.1.2⟩⟩)))⟩; have n1_ : Aside0 (Kd.V (Kd.int .i64) 3 w25 w.heap.size (fun k_ => (P0_ k_ ∨ w.heap.size ≤ k_) ∧ k_ ≠ gb185 ∧ k_ ≠ gb193) (.slice A183_3 ((rd_T76 l0 a2).f1.f0).length c183_3) ((rd_T76 l0 a2).f1.f0)) := ⟨(by rw [hw]; exact (by exact Kd.V_mono (vf3_ (Kd.V_mono HL183_3.out (fun k_ hk => (⟨hk, hk.2⟩ : _ ∧ k_ ≠ gb193))) (fun _ hk => hk.2)) (fun _ hk => ⟨hk.1.1.1, ⟨hk.1.1.2, hk.1.2⟩⟩)))⟩; have n2_ : Aside0 (Kd.V (Kd.int .i64) 3 w25 w.heap.size (fun k_ => (P0_ k_ ∨ w.heap.size ≤ k_) ∧ k_ ≠ gb185 ∧ k_ ≠ gb193) (.slice A183_6 ((rd_T76 l0 a2).f2.f0).length c183_6) ((rd_T76 l0 a2).f2.f0)) := ⟨(by rw [hw]; exact (by exact Kd.V_mono (vf3_ (Kd.V_mono HL183_6.out (fun k_ hk => (⟨hk, hk.2⟩ : _ ∧ k_ ≠ gb193))) (fun _ hk => hk.2)) (fun _ hk => ⟨hk.1.1.1, ⟨hk.1.1.2, hk.1.2⟩⟩)))⟩; have n3_ : Aside0 (Kd.V (Kd.int .i64) 3 w25 w.heap.size (fun k_ => (P0_ k_ ∨ w.heap.size ≤ k_) ∧ k_ ≠ gb185 ∧ k_ ≠ gb193) (.slice A183_3 ((rd_T76 l0 a2).f1.f0).length c183_3) ((rd_T76 l0 a2).f1.f0)) := ⟨(by rw [hw]; exact (by exact Kd.V_mono (vf3_ (Kd.V_mono HL184_3.out (fun k_ hk => (⟨hk, hk.2⟩ : _ ∧ k_ ≠ gb193))) (fun _ hk => hk.2)) (fun _ hk => ⟨hk.1.1.1, ⟨hk.1.1.2, hk.1.2⟩⟩)))⟩; have n4_ : Aside0 (Kd.V (Kd.int .i64) 3 w25 w.heap.size (fun k_ => (P0_ k_ ∨ w.heap.size ≤ k_) ∧ k_ ≠ gb185 ∧ k_ ≠ gb193) (.slice A183_6 ((rd_T76 l0 a2).f2.f0).length c183_6) ((rd_T76 l0 a2).f2.f0)) := ⟨(by rw [hw]; exact (by exact Kd.V_mono (vf3_ (Kd.V_mono HL184_6.out (fun k_ hk => (⟨hk, hk.2⟩ : _ ∧ k_ ≠ gb193))) (fun _ hk => hk.2)) (fun _ hk => ⟨hk.1.1.1, ⟨hk.1.1.2, hk.1.2⟩⟩)))⟩; have n5_ : Aside0 (Kd.V (Kd.int .i64) 3 w25 w.heap.size (fun k_ => (P0_ k_ ∨ w.heap.size ≤ k_) ∧ k_ ≠ gb185 ∧ k_ ≠ gb193) (.slice Ao22 t187.length co22) t187) := ⟨(by rw [hw]; exact (by exact Kd.V_mono (vf3_ (Kd.V_mono HO189.out (fun k_ hk => (⟨hk, hk.2⟩ : _ ∧ k_ ≠ gb193))) (fun _ hk => hk.2)) (fun _ hk => ⟨hk.1.1.1, ⟨hk.1.1.2, hk.1.2⟩⟩)))⟩; have n6_ : Aside0 (w25.heap[gb185]? = some (.cells #[.int .i64 ((rd_T76 l0 a2).f0.f0), .int .i64 ((rd_T76 l0 a2).f0.f1), .int .i64 ((rd_T76 l0 a2).f0.f2), .slice A183_3 ((rd_T76 l0 a2).f1.f0).length c183_3, .int .i64 ((rd_T76 l0 a2).f1.f1), .int .i64 ((rd_T76 l0 a2).f1.f2), .slice A183_6 ((rd_T76 l0 a2).f2.f0).length c183_6, .int .i64 ((rd_T76 l0 a2).f2.f1), .int .i64 ((rd_T76 l0 a2).f2.f2)] 76 (0, 0))) := ⟨(by rw [hw]; exact (by refine blk_far ?_ NB185_193.out _; refine blk_far ?_ NB185_193.out _; refine blk_far ?_ NB185_193.out _; exact BK185.out))⟩; have n7_ : Aside0 (w25.heap[gb193]? = some (.cells #[.slice Ao22 t187.length co22, .int .i64 t190, .int .i64 t191] 24 (0, 0))) := ⟨(by rw [hw]; exact (by exact bp3_ BK193.out))⟩; have n8_ : Aside0 (Below w.heap.size w w25) := ⟨(by rw [hw]; exact (by repeat ((with_reducible first | exact HB.out | refine below_set ?_ GE193.out))))⟩; clear hw; clear HO_0; clear HL183_3; clear HL183_6; clear HL184_3; clear HL184_6; clear HO189; clear BK185; clear BK193; clear HB; have HO_0 := n0_; have HL183_3 := n1_; have HL183_6 := n2_; have HL184_3 := n3_; have HL184_6 := n4_; have HO189 := n5_; have BK185 := n6_; have BK193 := n7_; have HB := n8_; clear n0_ n1_ n2_ n3_ n4_ n5_ n6_ n7_ n8_; obtain ⟨_, _, _, _, _, _⟩ := bk3_ BK193.out; obtain ⟨_, _, _, _, _, _, _, _, _, _, _, _, _, _, _, _, _, _⟩ := bk9_ BK185.out) | ((with_reducible refine gate_store (t := 24) (p := 54) rfl ?_); refine store_event (t := 24) (p := 54) (v := ?vo_w28) (w1 := (((w25.setCell ⟨gb185, 6, none⟩ (.slice Ao22 t187.length co22)).setCell ⟨gb185, 7, none⟩ (.int .i64 t190)).setCell ⟨gb185, 8, none⟩ (.int .i64 t191))) ?hg ?ho ?hn ?hr ?_; (case ho => rfl); (case hg => rfl); (case hn => rfl); (case hr => (go_simp; done)); intro w28 hw; have n0_ : Aside0 (Kd.V k76 76 w28 w.heap.size (fun k_ => (P0_ k_ ∨ w.heap.size ≤ k_) ∧ k_ ≠ gb185 ∧ k_ ≠ gb193) (.slice (some ad183) l0.length c0) l0) := ⟨(by rw [hw]; exact (by exact Kd.V_mono (Kd.V_far (p := ⟨gb185, 8, none⟩) (Kd.V_far (p := ⟨gb185, 7, none⟩) (Kd.V_far (p := ⟨gb185, 6, none⟩) (Kd.V_mono HO_0.out (fun k_ hk => (⟨hk, hk.2.1⟩ : _ ∧ k_ ≠ gb185))) (fun _ hk => hk.2) (.slice Ao22 t187.length co22)) (fun _ hk => hk.2) (.int .i64 t190)) (fun _ hk => hk.2) (.int .i64 t191)) (fun _ hk => ⟨hk.1.1, ⟨hk.1.2.1, hk.1.2.2⟩⟩)))⟩; have n1_ : Aside0 (Kd.V (Kd.int .i64) 3 w28 w.heap.size (fun k_ => (P0_ k_ ∨ w.heap.size ≤ k_) ∧ k_ ≠ gb185 ∧ k_ ≠ gb193) (.slice A183_3 ((rd_T76 l0 a2).f1.f0).length c183_3) ((rd_T76 l0 a2).f1.f0)) := ⟨(by rw [hw]; exact (by exact Kd.V_mono (Kd.V_far (p := ⟨gb185, 8, none⟩) (Kd.V_far (p := ⟨gb185, 7, none⟩) (Kd.V_far (p := ⟨gb185, 6, none⟩) (Kd.V_mono HL183_3.out (fun k_ hk => (⟨hk, hk.2.1⟩ : _ ∧ k_ ≠ gb185))) (fun _ hk => hk.2) (.slice Ao22 t187.length co22)) (fun _ hk => hk.2) (.int .i64 t190)) (fun _ hk => hk.2) (.int .i64 t191)) (fun _ hk => ⟨hk.1.1, ⟨hk.1.2.1, hk.1.2.2⟩⟩)))⟩; have n2_ : Aside0 (Kd.V (Kd.int .i64) 3 w28 w.heap.size (fun k_ => (P0_ k_ ∨ w.heap.size ≤ k_) ∧ k_ ≠ gb185 ∧ k_ ≠ gb193) (.slice A183_6 ((rd_T76 l0 a2).f2.f0).length c183_6) ((rd_T76 l0 a2).f2.f0)) := ⟨(by rw [hw]; exact (by exact Kd.V_mono (Kd.V_far (p := ⟨gb185, 8, none⟩) (Kd.V_far (p := ⟨gb185, 7, none⟩) (Kd.V_far (p := ⟨gb185, 6, none⟩) (Kd.V_mono HL183_6.out (fun k_ hk => (⟨hk, hk.2.1⟩ : _ ∧ k_ ≠ gb185))) (fun _ hk => hk.2) (.slice Ao22 t187.length co22)) (fun _ hk => hk.2) (.int .i64 t190)) (fun _ hk => hk.2) (.int .i64 t191)) (fun _ hk => ⟨hk.1.1, ⟨hk.1.2.1, hk.1.2.2⟩⟩)))⟩; have n3_ : Aside0 (Kd.V (Kd.int .i64) 3 w28 w.heap.size (fun k_ => (P0_ k_ ∨ w.heap.size ≤ k_) ∧ k_ ≠ gb185 ∧ k_ ≠ gb193) (.slice A183_3 ((rd_T76 l0 a2).f1.f0).length c183_3) ((rd_T76 l0 a2).f1.f0)) := ⟨(by rw [hw]; exact (by exact Kd.V_mono (Kd.V_far (p := ⟨gb185, 8, none⟩) (Kd.V_far (p := ⟨gb185, 7, none⟩) (Kd.V_far (p := ⟨gb185, 6, none⟩) (Kd.V_mono HL184_3.out (fun k_ hk => (⟨hk, hk.2.1⟩ : _ ∧ k_ ≠ gb185))) (fun _ hk => hk.2) (.slice Ao22 t187.length co22)) (fun _ hk => hk.2) (.int .i64 t190)) (fun _ hk => hk.2) (.int .i64 t191)) (fun _ hk => ⟨hk.1.1, ⟨hk.1.2.1, hk.1.2.2⟩⟩)))⟩; have n4_ : Aside0 (Kd.V (Kd.int .i64) 3 w28 w.heap.size (fun k_ => (P0_ k_ ∨ w.heap.size ≤ k_) ∧ k_ ≠ gb185 ∧ k_ ≠ gb193) (.slice A183_6 ((rd_T76 l0 a2).f2.f0).length c183_6) ((rd_T76 l0 a2).f2.f0)) := ⟨(by rw [hw]; exact (by exact Kd.V_mono (Kd.V_far (p := ⟨gb185, 8, none⟩) (Kd.V_far (p := ⟨gb185, 7, none⟩) (Kd.V_far (p := ⟨gb185, 6, none⟩) (Kd.V_mono HL184_6.out (fun k_ hk => (⟨hk, hk.2.1⟩ : _ ∧ k_ ≠ gb185))) (fun _ hk => hk.2) (.slice Ao22 t187.length co22)) (fun _ hk => hk.2) (.int .i64 t190)) (fun _ hk => hk.2) (.int .i64 t191)) (fun _ hk => ⟨hk.1.1, ⟨hk.1.2.1, hk.1.2.2⟩⟩)))⟩; have n5_ : Aside0 (Kd.V (Kd.int .i64) 3 w28 w.heap.size (fun k_ => (P0_ k_ ∨ w.heap.size ≤ k_) ∧ k_ ≠ gb185 ∧ k_ ≠ gb193) (.slice Ao22 t187.length co22) t187) := ⟨(by rw [hw]; exact (by exact Kd.V_mono (Kd.V_far (p := ⟨gb185, 8, none⟩) (Kd.V_far (p := ⟨gb185, 7, none⟩) (Kd.V_far (p := ⟨gb185, 6, none⟩) (Kd.V_mono HO189.out (fun k_ hk => (⟨hk, hk.2.1⟩ : _ ∧ k_ ≠ gb185))) (fun _ hk => hk.2) (.slice Ao22 t187.length co22)) (fun _ hk => hk.2) (.int .i64 t190)) (fun _ hk => hk.2) (.int .i64 t191)) (fun _ hk => ⟨hk.1.1, ⟨hk.1.2.1, hk.1.2.2⟩⟩)))⟩; have n6_ : Aside0 (w28.heap[gb185]? = some (.cells #[.int .i64 ((rd_T76 l0 a2).f0.f0), .int .i64 ((rd_T76 l0 a2).f0.f1), .int .i64 ((rd_T76 l0 a2).f0.f2), .slice A183_3 ((rd_T76 l0 a2).f1.f0).length c183_3, .int .i64 ((rd_T76 l0 a2).f1.f1), .int .i64 ((rd_T76 l0 a2).f1.f2), .slice Ao22 t187.length co22, .int .i64 t190, .int .i64 t191] 76 (0, 0))) := ⟨(by rw [hw]; exact (by refine blk_put (cs := #[.int .i64 ((rd_T76 l0 a2).f0.f0), .int .i64 ((rd_T76 l0 a2).f0.f1), .int .i64 ((rd_T76 l0 a2).f0.f2), .slice A183_3 ((rd_T76 l0 a2).f1.f0).length c183_3, .int .i64 ((rd_T76 l0 a2).f1.f1), .int .i64 ((rd_T76 l0 a2).f1.f2), .slice Ao22 t187.length co22, .int .i64 t190, .int .i64 ((rd_T76 l0 a2).f2.f2)]) ?_ 8 _ rfl; refine blk_put (cs := #[.int .i64 ((rd_T76 l0 a2).f0.f0), .int .i64 ((rd_T76 l0 a2).f0.f1), .int .i64 ((rd_T76 l0 a2).f0.f2), .slice A183_3 ((rd_T76 l0 a2).f1.f0).length c183_3, .int .i64 ((rd_T76 l0 a2).f1.f1), .int .i64 ((rd_T76 l0 a2).f1.f2), .slice Ao22 t187.length co22, .int .i64 ((rd_T76 l0 a2).f2.f1), .int .i64 ((rd_T76 l0 a2).f2.f2)]) ?_ 7 _ rfl; refine blk_put (cs := #[.int .i64 ((rd_T76 l0 a2).f0.f0), .int .i64 ((rd_T76 l0 a2).f0.f1), .int .i64 ((rd_T76 l0 a2).f0.f2), .slice A183_3 ((rd_T76 l0 a2).f1.f0).length c183_3, .int .i64 ((rd_T76 l0 a2).f1.f1), .int .i64 ((rd_T76 l0 a2).f1.f2), .slice A183_6 ((rd_T76 l0 a2).f2.f0).length c183_6, .int .i64 ((rd_T76 l0 a2).f2.f1), .int .i64 ((rd_T76 l0 a2).f2.f2)]) ?_ 6 _ rfl; exact BK185.out))⟩; have n7_ : Aside0 (w28.heap[gb193]? = some (.cells #[.slice Ao22 t187.length co22, .int .i64 t190, .int .i64 t191] 24 (0, 0))) := ⟨(by rw [hw]; exact (by refine blk_far ?_ NB193_185.out _; refine blk_far ?_ NB193_185.out _; refine blk_far ?_ NB193_185.out _; exact BK193.out))⟩; have n8_ : Aside0 (Below w.heap.size w w28) := ⟨(by rw [hw]; exact (by repeat ((with_reducible first | exact HB.out | refine below_set ?_ GE185.out))))⟩; clear hw; clear HO_0; clear HL183_3; clear HL183_6; clear HL184_3; clear HL184_6; clear HO189; clear BK185; clear BK193; clear HB; have HO_0 := n0_; have HL183_3 := n1_; have HL183_6 := n2_; have HL184_3 := n3_; have HL184_6 := n4_; have HO189 := n5_; have BK185 := n6_; have BK193 := n7_; have HB := n8_; clear n0_ n1_ n2_ n3_ n4_ n5_ n6_ n7_ n8_; obtain ⟨_, _, _, _, _, _, _, _, _, _, _, _, _, _, _, _, _, _⟩ := bk9_ BK185.out) | ((with_reducible refine gate_callee (f := 44) rfl ?_); refine goesL_ (some 59) rfl rfl Try.func44 (by kernel_rfl) rfl #[.slice (some ad183) l0.length c0, .int .i64 a2, .agg #[.int .i64 ((rd_T76 l0 a2).f0.f0), .int .i64 ((rd_T76 l0 a2).f0.f1), .int .i64 ((rd_T76 l0 a2).f0.f2), .slice A183_3 ((rd_T76 l0 a2).f1.f0).length c183_3, .int .i64 ((rd_T76 l0 a2).f1.f1), .int .i64 ((rd_T76 l0 a2).f1.f2), .slice Ao22 t187.length co22, .int .i64 t190, .int .i64 t191]] rfl (by (try simp only [List.map_toArray, List.map_cons, List.map_nil]); rfl) ?_; (with_reducible refine (port_with.calls (fun k_ => ((P0_ k_ ∨ w.heap.size ≤ k_) ∧ (k_ ≠ gb185 ∧ k_ ≠ gb193))) _ _ l0 a2 ((rd_T76 l0 a2).f0.f0) ((rd_T76 l0 a2).f0.f1) ((rd_T76 l0 a2).f0.f2) (fun k_ => ((P0_ k_ ∨ w.heap.size ≤ k_) ∧ (k_ ≠ gb185 ∧ k_ ≠ gb193))) _ _ ((rd_T76 l0 a2).f1.f0) ((rd_T76 l0 a2).f1.f1) ((rd_T76 l0 a2).f1.f2) (fun k_ => ((P0_ k_ ∨ w.heap.size ≤ k_) ∧ (k_ ≠ gb185 ∧ k_ ≠ gb193))) _ _ t187 t190 t191 t194 _ ?side1 ?side2 ?side3 A15.out).mono ?_); (case side1 => exact HO_0.out); (case side2 => exact HL184_3.out); (case side3 => exact HO189.out); rintro e w30 ⟨v195, rfl, ho0, hb⟩; refine ⟨_, rfl, ?_⟩; have n0_ := Aside0.mk (Kd.V_elder' HO_0.out (by (exact Kd.N_base ho0)) hb); have n1_ := Aside0.mk (Kd.V_elder' HL183_3.out (by (exact Kd.N_base ho0)) hb); have n2_ := Aside0.mk (Kd.V_elder' HL183_6.out (by (exact Kd.N_base ho0)) hb); have n3_ := Aside0.mk (Kd.V_elder' HL184_3.out (by (exact Kd.N_base ho0)) hb); have n4_ := Aside0.mk (Kd.V_elder' HL184_6.out (by (exact Kd.N_base ho0)) hb); have n5_ := Aside0.mk (Kd.V_elder' HO189.out (by (exact Kd.N_base ho0)) hb); have n6_ := Aside0.mk (Kd.N_lower (Kd.N_mono (ok' := fun k_ => (P0_ k_ ∨ w.heap.size ≤ k_) ∧ k_ ≠ gb185 ∧ k_ ≠ gb193) ho0 (fun k_ hk_ => ⟨Or.elim hk_ (fun hs_ => Or.elim hs_ (fun hs_ => hs_.1) (fun hs_ => Or.elim hs_ (fun hs_ => hs_.1) (fun hs_ => hs_.1))) (fun hn_ => (.inr (Nat.le_trans (below_size HB.out) hn_))), Or.elim hk_ (fun hs_ => Or.elim hs_ (fun hs_ => hs_.2.1) (fun hs_ => Or.elim hs_ (fun hs_ => hs_.2.1) (fun hs_ => hs_.2.1))) (fun hn_ => (Kd.freshB BK185.out k_ hn_)), Or.elim hk_ (fun hs_ => Or.elim hs_ (fun hs_ => hs_.2.2) (fun hs_ => Or.elim hs_ (fun hs_ => hs_.2.2) (fun hs_ => hs_.2.2))) (fun hn_ => (Kd.freshB BK193.out k_ hn_))⟩)) (below_size HB.out)); have n7_ := Aside0.mk (Kd.C_below (by (exact (Kd.V_reads' HL183_3.out).2.2)) hb); have n8_ := Aside0.mk (Kd.C_below (by (exact (Kd.V_reads' HL183_6.out).2.2)) hb); have n9_ := Aside0.mk (Kd.C_below (by (exact (Kd.V_reads' HL184_3.out).2.2)) hb); have n10_ := Aside0.mk (Kd.C_below (by (exact (Kd.V_reads' HL184_6.out).2.2)) hb); clear HO_0 HL183_3 HL183_6 HL184_3 HL184_6 HO189 HR183_3 HR183_6 HR184_3 HR184_6; have HO_0 := n0_; have HL183_3 := n1_; have HL183_6 := n2_; have HL184_3 := n3_; have HL184_6 := n4_; have HO189 := n5_; have HO196 := n6_; have HR183_3 := n7_; have HR183_6 := n8_; have HR184_3 := n9_; have HR184_6 := n10_; clear n0_ n1_ n2_ n3_ n4_ n5_ n6_ n7_ n8_ n9_ n10_; replace BK185 := kb_ BK185 hb; replace BK193 := kb_ BK193 hb; replace HB := hb_ HB hb; (try clear hb); (try clear hb2); (try clear hk); (try clear hi); (try clear ho0)))
                  go_ret3
                  exact ⟨_, by rfl, Kd.N_V (by exact Kd.N_mono HO196.out (fun _ hk => hk.1)), by repeat ((with_reducible (exact HB.out)))⟩
                · rw [if_neg c14] at H
                  have c14b0 : (t192 == 0) = false := beq_eq_false_iff_ne.mpr c14
                  have c14b1 : (t192 != 0) = true := bne_iff_ne.mpr c14
                  simp only [Option.some.injEq, Prod.mk.injEq] at H
                  obtain ⟨rfl, rfl, rfl⟩ := H
                  have p183 : 0 ≤ (a2 : Int) := of_decide_eq_true (by (with_reducible assumption))
                  have q183 : a2 < (l0.length : Int) := of_decide_eq_true (by (with_reducible assumption))
                  obtain ⟨ad183, A183_3, c183_3, A183_6, c183_6, e183, hx183_0, hx183_1, hx183_2, hx183_3, hx183_4, hx183_5, hx183_6, hx183_7, hx183_8, hl183_3, hi183_3, hl183_6, hi183_6⟩ := at_T76 (Kd.V_reads' HO_0.out).2.2 a2 p183 q183
                  cases e183
                  obtain ⟨ce183, hce183, hMe183, hcc183⟩ := Kd.V_get HO_0.out z76 a2 p183 q183
                  obtain ⟨ua183_3, uc183_3, ua183_6, uc183_6, rfl, ul183_3, ge183_3, ul183_6, ge183_6⟩ := k76_openF hMe183
                  have hv183_3 := hcc183 3 _ rfl
                  rw [add_field _ _ 3 (by omega)] at hv183_3
                  replace hv183_3 := Option.some.inj (hv183_3.symm.trans hx183_3)
                  injection hv183_3 with hva_ hvn_ hvc_
                  rw [hva_] at ge183_3
                  rw [hvc_] at ul183_3
                  have HL183_3 := Aside0.mk (show Kd.V (Kd.int .i64) 3 _ w.heap.size _ _ ((rd_T76 l0 a2).f1.f0) from Kd.V_mk ul183_3 ge183_3)
                  clear hva_ hvn_ hvc_ ge183_3 ul183_3
                  have hv183_6 := hcc183 6 _ rfl
                  rw [add_field _ _ 6 (by omega)] at hv183_6
                  replace hv183_6 := Option.some.inj (hv183_6.symm.trans hx183_6)
                  injection hv183_6 with hva_ hvn_ hvc_
                  rw [hva_] at ge183_6
                  rw [hvc_] at ul183_6
                  have HL183_6 := Aside0.mk (show Kd.V (Kd.int .i64) 3 _ w.heap.size _ _ ((rd_T76 l0 a2).f2.f0) from Kd.V_mk ul183_6 ge183_6)
                  clear hva_ hvn_ hvc_ ge183_6 ul183_6
                  clear hcc183 hce183
                  have HR183_3 := Aside0.mk hi183_3
                  have HC183_3 := Aside0.mk hl183_3
                  clear hi183_3 hl183_3
                  have HR183_6 := Aside0.mk hi183_6
                  have HC183_6 := Aside0.mk hl183_6
                  clear hi183_6 hl183_6
                  replace p183 := eq_true p183
                  replace q183 := eq_true q183
                  have p184 : 0 ≤ (a2 : Int) := of_decide_eq_true (by (with_reducible assumption))
                  have q184 : a2 < (l0.length : Int) := of_decide_eq_true (by (with_reducible assumption))
                  obtain ⟨ad184, A184_3, c184_3, A184_6, c184_6, e184, hx184_0, hx184_1, hx184_2, hx184_3, hx184_4, hx184_5, hx184_6, hx184_7, hx184_8, hl184_3, hi184_3, hl184_6, hi184_6⟩ := at_T76 (Kd.V_reads' HO_0.out).2.2 a2 p184 q184
                  obtain rfl : ad183 = ad184 := (by injection e184)
                  obtain ⟨ce184, hce184, hMe184, hcc184⟩ := Kd.V_get HO_0.out z76 a2 p184 q184
                  obtain ⟨ua184_3, uc184_3, ua184_6, uc184_6, rfl, ul184_3, ge184_3, ul184_6, ge184_6⟩ := k76_openF hMe184
                  have hv184_3 := hcc184 3 _ rfl
                  rw [add_field _ _ 3 (by omega)] at hv184_3
                  replace hv184_3 := Option.some.inj (hv184_3.symm.trans hx184_3)
                  injection hv184_3 with hva_ hvn_ hvc_
                  rw [hva_] at ge184_3
                  rw [hvc_] at ul184_3
                  have HL184_3 := Aside0.mk (show Kd.V (Kd.int .i64) 3 _ w.heap.size _ _ ((rd_T76 l0 a2).f1.f0) from Kd.V_mk ul184_3 ge184_3)
                  clear hva_ hvn_ hvc_ ge184_3 ul184_3
                  have hv184_6 := hcc184 6 _ rfl
                  rw [add_field _ _ 6 (by omega)] at hv184_6
                  replace hv184_6 := Option.some.inj (hv184_6.symm.trans hx184_6)
                  injection hv184_6 with hva_ hvn_ hvc_
                  rw [hva_] at ge184_6
                  rw [hvc_] at ul184_6
                  have HL184_6 := Aside0.mk (show Kd.V (Kd.int .i64) 3 _ w.heap.size _ _ ((rd_T76 l0 a2).f2.f0) from Kd.V_mk ul184_6 ge184_6)
                  clear hva_ hvn_ hvc_ ge184_6 ul184_6
                  clear hcc184 hce184
                  have HR184_3 := Aside0.mk hi184_3
                  have HC184_3 := Aside0.mk hl184_3
                  clear hi184_3 hl184_3
                  have HR184_6 := Aside0.mk hi184_6
                  have HC184_6 := Aside0.mk hl184_6
                  clear hi184_6 hl184_6
                  replace p184 := eq_true p184
                  replace q184 := eq_true q184
                  have ea_ := Option.some.inj (hx183_3.symm.trans hx184_3)
                  injection ea_ with ea_ en_ ec_
                  subst ea_
                  subst ec_
                  clear en_
                  have ea_ := Option.some.inj (hx183_6.symm.trans hx184_6)
                  injection ea_ with ea_ en_ ec_
                  subst ea_
                  subst ec_
                  clear en_
                  go_wp2_with (first | ((with_reducible refine gate_dst (N := 9) rfl ?_); (try (refine gate_guard (by rfl) ?_; dsimp only)); refine box_event ?hg (N := 9) ?hd (cs := #[.int .i64 0, .int .i64 0, .int .i64 0, .slice none 0 0, .int .i64 0, .int .i64 0, .slice none 0 0, .int .i64 0, .int .i64 0]) (t := 76) ?hr ?_; (case hd => rfl); (case hg => rfl); (case hr => (go_simp; done)); intro gb185 hg w31 hbox hb; have n0_ := Aside0.mk (Kd.V_below (Kd.V_elderB HO_0.out gb185 (Nat.le_of_eq hg.symm)) hb); have n1_ := Aside0.mk (Kd.V_below (Kd.V_elderB HL183_3.out gb185 (Nat.le_of_eq hg.symm)) hb); have n2_ := Aside0.mk (Kd.V_below (Kd.V_elderB HL183_6.out gb185 (Nat.le_of_eq hg.symm)) hb); have n3_ := Aside0.mk (Kd.V_below (Kd.V_elderB HL184_3.out gb185 (Nat.le_of_eq hg.symm)) hb); have n4_ := Aside0.mk (Kd.V_below (Kd.V_elderB HL184_6.out gb185 (Nat.le_of_eq hg.symm)) hb); have n5_ := Aside0.mk (Kd.C_below (by (exact (Kd.V_reads' HL183_3.out).2.2)) hb); have n6_ := Aside0.mk (Kd.C_below (by (exact (Kd.V_reads' HL183_6.out).2.2)) hb); have n7_ := Aside0.mk (Kd.C_below (by (exact (Kd.V_reads' HL184_3.out).2.2)) hb); have n8_ := Aside0.mk (Kd.C_below (by (exact (Kd.V_reads' HL184_6.out).2.2)) hb); have n10_ := Aside0.mk (hbox); have n11_ := Aside0.mk ((by rw [hg]; exact (below_size HB.out) : w.heap.size ≤ gb185)); have n12_ := Aside0.mk ((by rw [hg]; exact (below_size HB.out) : w.heap.size ≤ gb185)); clear HO_0 HL183_3 HL183_6 HL184_3 HL184_6 HR183_3 HR183_6 HR184_3 HR184_6; have HO_0 := n0_; have HL183_3 := n1_; have HL183_6 := n2_; have HL184_3 := n3_; have HL184_6 := n4_; have HR183_3 := n5_; have HR183_6 := n6_; have HR184_3 := n7_; have HR184_6 := n8_; have BK185 := n10_; have GW185 := n11_; have GE185 := n12_; clear n0_ n1_ n2_ n3_ n4_ n5_ n6_ n7_ n8_ n10_ n11_ n12_; replace HB := hb_ HB hb; clear hb hbox hg; obtain ⟨_, _, _, _, _, _, _, _, _, _, _, _, _, _, _, _, _, _⟩ := bk9_ BK185.out) | ((with_reducible refine gate_store (t := 76) (p := 9) rfl ?_); refine store_event (t := 76) (p := 9) (v := ?vo_w33) (w1 := (((((((((w31.setCell ⟨gb185, 0, none⟩ (.int .i64 ((rd_T76 l0 a2).f0.f0))).setCell ⟨gb185, 1, none⟩ (.int .i64 ((rd_T76 l0 a2).f0.f1))).setCell ⟨gb185, 2, none⟩ (.int .i64 ((rd_T76 l0 a2).f0.f2))).setCell ⟨gb185, 3, none⟩ (.slice A183_3 ((rd_T76 l0 a2).f1.f0).length c183_3)).setCell ⟨gb185, 4, none⟩ (.int .i64 ((rd_T76 l0 a2).f1.f1))).setCell ⟨gb185, 5, none⟩ (.int .i64 ((rd_T76 l0 a2).f1.f2))).setCell ⟨gb185, 6, none⟩ (.slice A183_6 ((rd_T76 l0 a2).f2.f0).length c183_6)).setCell ⟨gb185, 7, none⟩ (.int .i64 ((rd_T76 l0 a2).f2.f1))).setCell ⟨gb185, 8, none⟩ (.int .i64 ((rd_T76 l0 a2).f2.f2)))) ?hg ?ho ?hn ?hr ?_; (case ho => rfl); (case hg => rfl); (case hn => rfl); (case hr => (go_simp; done)); intro w33 hw; have n0_ : Aside0 (Kd.V k76 76 w33 w.heap.size (fun k_ => (P0_ k_ ∨ w.heap.size ≤ k_) ∧ k_ ≠ gb185) (.slice (some ad183) l0.length c0) l0) := ⟨(by rw [hw]; exact (by exact Kd.V_mono (vf9_ (Kd.V_mono HO_0.out (fun k_ hk => (⟨hk, hk.2⟩ : _ ∧ k_ ≠ gb185))) (fun _ hk => hk.2)) (fun _ hk => ⟨hk.1.1, hk.1.2⟩)))⟩; have n1_ : Aside0 (Kd.V (Kd.int .i64) 3 w33 w.heap.size (fun k_ => (P0_ k_ ∨ w.heap.size ≤ k_) ∧ k_ ≠ gb185) (.slice A183_3 ((rd_T76 l0 a2).f1.f0).length c183_3) ((rd_T76 l0 a2).f1.f0)) := ⟨(by rw [hw]; exact (by exact Kd.V_mono (vf9_ (Kd.V_mono HL183_3.out (fun k_ hk => (⟨hk, hk.2⟩ : _ ∧ k_ ≠ gb185))) (fun _ hk => hk.2)) (fun _ hk => ⟨hk.1.1, hk.1.2⟩)))⟩; have n2_ : Aside0 (Kd.V (Kd.int .i64) 3 w33 w.heap.size (fun k_ => (P0_ k_ ∨ w.heap.size ≤ k_) ∧ k_ ≠ gb185) (.slice A183_6 ((rd_T76 l0 a2).f2.f0).length c183_6) ((rd_T76 l0 a2).f2.f0)) := ⟨(by rw [hw]; exact (by exact Kd.V_mono (vf9_ (Kd.V_mono HL183_6.out (fun k_ hk => (⟨hk, hk.2⟩ : _ ∧ k_ ≠ gb185))) (fun _ hk => hk.2)) (fun _ hk => ⟨hk.1.1, hk.1.2⟩)))⟩; have n3_ : Aside0 (Kd.V (Kd.int .i64) 3 w33 w.heap.size (fun k_ => (P0_ k_ ∨ w.heap.size ≤ k_) ∧ k_ ≠ gb185) (.slice A183_3 ((rd_T76 l0 a2).f1.f0).length c183_3) ((rd_T76 l0 a2).f1.f0)) := ⟨(by rw [hw]; exact (by exact Kd.V_mono (vf9_ (Kd.V_mono HL184_3.out (fun k_ hk => (⟨hk, hk.2⟩ : _ ∧ k_ ≠ gb185))) (fun _ hk => hk.2)) (fun _ hk => ⟨hk.1.1, hk.1.2⟩)))⟩; have n4_ : Aside0 (Kd.V (Kd.int .i64) 3 w33 w.heap.size (fun k_ => (P0_ k_ ∨ w.heap.size ≤ k_) ∧ k_ ≠ gb185) (.slice A183_6 ((rd_T76 l0 a2).f2.f0).length c183_6) ((rd_T76 l0 a2).f2.f0)) := ⟨(by rw [hw]; exact (by exact Kd.V_mono (vf9_ (Kd.V_mono HL184_6.out (fun k_ hk => (⟨hk, hk.2⟩ : _ ∧ k_ ≠ gb185))) (fun _ hk => hk.2)) (fun _ hk => ⟨hk.1.1, hk.1.2⟩)))⟩; have n5_ : Aside0 (w33.heap[gb185]? = some (.cells #[.int .i64 ((rd_T76 l0 a2).f0.f0), .int .i64 ((rd_T76 l0 a2).f0.f1), .int .i64 ((rd_T76 l0 a2).f0.f2), .slice A183_3 ((rd_T76 l0 a2).f1.f0).length c183_3, .int .i64 ((rd_T76 l0 a2).f1.f1), .int .i64 ((rd_T76 l0 a2).f1.f2), .slice A183_6 ((rd_T76 l0 a2).f2.f0).length c183_6, .int .i64 ((rd_T76 l0 a2).f2.f1), .int .i64 ((rd_T76 l0 a2).f2.f2)] 76 (0, 0))) := ⟨(by rw [hw]; exact (by exact bp9_ BK185.out))⟩; have n6_ : Aside0 (Below w.heap.size w w33) := ⟨(by rw [hw]; exact (by repeat ((with_reducible first | exact HB.out | refine below_set ?_ GE185.out))))⟩; clear hw; clear HO_0; clear HL183_3; clear HL183_6; clear HL184_3; clear HL184_6; clear BK185; clear HB; have HO_0 := n0_; have HL183_3 := n1_; have HL183_6 := n2_; have HL184_3 := n3_; have HL184_6 := n4_; have BK185 := n5_; have HB := n6_; clear n0_ n1_ n2_ n3_ n4_ n5_ n6_; obtain ⟨_, _, _, _, _, _, _, _, _, _, _, _, _, _, _, _, _, _⟩ := bk9_ BK185.out) | ((with_reducible refine gate_callee (f := 23) rfl ?_); refine goesL_ (some 45) rfl rfl Try.func23 (by kernel_rfl) rfl #[.agg #[.slice A183_6 ((rd_T76 l0 a2).f2.f0).length c183_6, .int .i64 ((rd_T76 l0 a2).f2.f1), .int .i64 ((rd_T76 l0 a2).f2.f2)]] rfl (by (try simp only [List.map_toArray, List.map_cons, List.map_nil]); rfl) ?_; (with_reducible refine (ring_Pop.calls (fun k_ => ((P0_ k_ ∨ w.heap.size ≤ k_) ∧ k_ ≠ gb185)) _ _ ((rd_T76 l0 a2).f2.f0) ((rd_T76 l0 a2).f2.f1) ((rd_T76 l0 a2).f2.f2) t186 t187 t190 t191 t192 _ ?side1 A13.out).mono ?_); (case side1 => exact HL184_6.out); rintro e w35 ⟨v188, rfl, ho0, hb⟩; refine ⟨_, rfl, ?_⟩; have n5_ := Aside0.mk (Kd.V_lower (Kd.V_mono (ok' := fun k_ => (P0_ k_ ∨ w.heap.size ≤ k_) ∧ k_ ≠ gb185) ho0 (fun k_ hk_ => ⟨Or.elim hk_ (fun hs_ => hs_.1) (fun hn_ => (.inr (Nat.le_trans (below_size HB.out) hn_))), Or.elim hk_ (fun hs_ => hs_.2) (fun hn_ => (Kd.freshB BK185.out k_ hn_))⟩)) (below_size HB.out)); have n6_ := Aside0.mk (Kd.C_below (by (exact (Kd.V_reads' HL183_3.out).2.2)) hb); have n7_ := Aside0.mk (Kd.C_below (by (exact (Kd.V_reads' HL183_6.out).2.2)) hb); have n8_ := Aside0.mk (Kd.C_below (by (exact (Kd.V_reads' HL184_3.out).2.2)) hb); have n9_ := Aside0.mk (Kd.C_below (by (exact (Kd.V_reads' HL184_6.out).2.2)) hb); clear HR183_3 HR183_6 HR184_3 HR184_6; have HO189 := n5_; have HR183_3 := n6_; have HR183_6 := n7_; have HR184_3 := n8_; have HR184_6 := n9_; clear n5_ n6_ n7_ n8_ n9_; replace HO_0 := vb_ HO_0 hb; replace HL183_3 := vb_ HL183_3 hb; replace HL183_6 := vb_ HL183_6 hb; replace HL184_3 := vb_ HL184_3 hb; replace HL184_6 := vb_ HL184_6 hb; replace BK185 := kb_ BK185 hb; replace HB := hb_ HB hb; (try clear hb); (try clear hb2); (try clear hk); (try clear hi); (try clear ho0)) | ((with_reducible refine gate_dst (N := 11) rfl ?_); (try (refine gate_guard (by rfl) ?_; dsimp only)); refine box_event ?hg (N := 11) ?hd (cs := #[.slice none 0 0, .int .i64 0, .int .i64 0]) (t := 24) ?hr ?_; (case hd => rfl); (case hg => rfl); (case hr => (go_simp; done)); intro gb193 hg w36 hbox hb; have n0_ := Aside0.mk (Kd.V_below (Kd.V_elderB HO_0.out gb193 (Nat.le_of_eq hg.symm)) hb); have n1_ := Aside0.mk (Kd.V_below (Kd.V_elderB HL183_3.out gb193 (Nat.le_of_eq hg.symm)) hb); have n2_ := Aside0.mk (Kd.V_below (Kd.V_elderB HL183_6.out gb193 (Nat.le_of_eq hg.symm)) hb); have n3_ := Aside0.mk (Kd.V_below (Kd.V_elderB HL184_3.out gb193 (Nat.le_of_eq hg.symm)) hb); have n4_ := Aside0.mk (Kd.V_below (Kd.V_elderB HL184_6.out gb193 (Nat.le_of_eq hg.symm)) hb); have n5_ := Aside0.mk (Kd.V_below (Kd.V_elderB HO189.out gb193 (Nat.le_of_eq hg.symm)) hb); have n6_ := Aside0.mk (Kd.C_below (by (exact (Kd.V_reads' HL183_3.out).2.2)) hb); have n7_ := Aside0.mk (Kd.C_below (by (exact (Kd.V_reads' HL183_6.out).2.2)) hb); have n8_ := Aside0.mk (Kd.C_below (by (exact (Kd.V_reads' HL184_3.out).2.2)) hb); have n9_ := Aside0.mk (Kd.C_below (by (exact (Kd.V_reads' HL184_6.out).2.2)) hb); have n12_ := Aside0.mk (hbox); have n13_ := Aside0.mk ((by rw [hg]; exact (below_size HB.out) : w.heap.size ≤ gb193)); have n14_ := Aside0.mk ((by rw [hg]; exact (below_size HB.out) : w.heap.size ≤ gb193)); have n15_ := Aside0.mk ((by rw [hg]; exact Nat.ne_of_lt (blk_lt BK185.out) : gb185 ≠ gb193)); have n16_ := Aside0.mk ((by rw [hg]; exact Nat.ne_of_gt (blk_lt BK185.out) : gb193 ≠ gb185)); clear HO_0 HL183_3 HL183_6 HL184_3 HL184_6 HO189 HR183_3 HR183_6 HR184_3 HR184_6; have HO_0 := n0_; have HL183_3 := n1_; have HL183_6 := n2_; have HL184_3 := n3_; have HL184_6 := n4_; have HO189 := n5_; have HR183_3 := n6_; have HR183_6 := n7_; have HR184_3 := n8_; have HR184_6 := n9_; have BK193 := n12_; have GW193 := n13_; have GE193 := n14_; have NB185_193 := n15_; have NB193_185 := n16_; clear n0_ n1_ n2_ n3_ n4_ n5_ n6_ n7_ n8_ n9_ n12_ n13_ n14_ n15_ n16_; replace BK185 := kb_ BK185 hb; replace HB := hb_ HB hb; clear hb hbox hg; obtain ⟨Ao37, co37, eo37⟩ := Kd.V_slice HO189.out; subst eo37; have hnb38 := NB193_185.out; have hnc38 := NB185_193.out; obtain ⟨_, _, _, _, _, _⟩ := bk3_ BK193.out))
                  go_ret3
                  exact ⟨_, by rfl, by exact Kd.V_mono (vf3_ (Kd.V_mono HO_0.out (fun k_ hk => (⟨hk, hk.2⟩ : _ ∧ k_ ≠ gb193))) (fun _ hk => hk.2)) (fun _ hk => hk.1.1.1), by repeat ((with_reducible first | exact HB.out | refine below_set ?_ GE193.out))⟩
              · rw [if_neg c12] at H
                have c12b0 : (((rd_T76 l0 a2).f0.f1) == a1) = false := beq_eq_false_iff_ne.mpr c12
                have c12b1 : (((rd_T76 l0 a2).f0.f1) != a1) = true := bne_iff_ne.mpr c12
                simp only [Option.some.injEq, Prod.mk.injEq] at H
                obtain ⟨rfl, rfl, rfl⟩ := H
                have p183 : 0 ≤ (a2 : Int) := of_decide_eq_true (by (with_reducible assumption))
                have q183 : a2 < (l0.length : Int) := of_decide_eq_true (by (with_reducible assumption))
                obtain ⟨ad183, A183_3, c183_3, A183_6, c183_6, e183, hx183_0, hx183_1, hx183_2, hx183_3, hx183_4, hx183_5, hx183_6, hx183_7, hx183_8, hl183_3, hi183_3, hl183_6, hi183_6⟩ := at_T76 (Kd.V_reads' HO_0.out).2.2 a2 p183 q183
                cases e183
                obtain ⟨ce183, hce183, hMe183, hcc183⟩ := Kd.V_get HO_0.out z76 a2 p183 q183
                obtain ⟨ua183_3, uc183_3, ua183_6, uc183_6, rfl, ul183_3, ge183_3, ul183_6, ge183_6⟩ := k76_openF hMe183
                have hv183_3 := hcc183 3 _ rfl
                rw [add_field _ _ 3 (by omega)] at hv183_3
                replace hv183_3 := Option.some.inj (hv183_3.symm.trans hx183_3)
                injection hv183_3 with hva_ hvn_ hvc_
                rw [hva_] at ge183_3
                rw [hvc_] at ul183_3
                have HL183_3 := Aside0.mk (show Kd.V (Kd.int .i64) 3 _ w.heap.size _ _ ((rd_T76 l0 a2).f1.f0) from Kd.V_mk ul183_3 ge183_3)
                clear hva_ hvn_ hvc_ ge183_3 ul183_3
                have hv183_6 := hcc183 6 _ rfl
                rw [add_field _ _ 6 (by omega)] at hv183_6
                replace hv183_6 := Option.some.inj (hv183_6.symm.trans hx183_6)
                injection hv183_6 with hva_ hvn_ hvc_
                rw [hva_] at ge183_6
                rw [hvc_] at ul183_6
                have HL183_6 := Aside0.mk (show Kd.V (Kd.int .i64) 3 _ w.heap.size _ _ ((rd_T76 l0 a2).f2.f0) from Kd.V_mk ul183_6 ge183_6)
                clear hva_ hvn_ hvc_ ge183_6 ul183_6
                clear hcc183 hce183
                have HR183_3 := Aside0.mk hi183_3
                have HC183_3 := Aside0.mk hl183_3
                clear hi183_3 hl183_3
                have HR183_6 := Aside0.mk hi183_6
                have HC183_6 := Aside0.mk hl183_6
                clear hi183_6 hl183_6
                replace p183 := eq_true p183
                replace q183 := eq_true q183
                go_wp2
                go_ret3
                exact ⟨_, by rfl, by exact HO_0.out, by repeat ((with_reducible (exact HB.out)))⟩
            · rw [if_neg c11] at H
              exact absurd H (by simp)
          · rw [if_neg c10] at H
            exact absurd H (by simp)
  · replace c5 := Bool.eq_false_iff.mpr c5
    subst c5
    have H1 : (some (0, l0, 1)) = some (r1, r2, r3) := by rw [if_neg (show ¬ (false = true) by decide)] at H; exact H
    clear H
    have H := H1
    clear H1
    simp only [Option.some.injEq, Prod.mk.injEq] at H
    obtain ⟨rfl, rfl, rfl⟩ := H
    go_enter Try.func29, Try.ntmps29
    go_wp2_with (((with_reducible refine gate_callee (f := 31) rfl ?_); refine goesL_ (some 15) rfl rfl Try.func31 (by kernel_rfl) rfl #[.slice A0 l0.length c0] rfl (by (try simp only [List.map_toArray, List.map_cons, List.map_nil]); rfl) ?_; (with_reducible refine (port_Right.calls k _ _ l0 false _ ?side1 ?side2 A4.out).mono ?_); (case side1 => repeat ((exact (Kd.V_reads' HO0.out).2.2))); (case side2 => exact (Kd.V_reads' HO0.out).2.1); rintro e w40 ⟨rfl, hb⟩; refine ⟨_, rfl, ?_⟩; replace HO0 := vb_ HO0 hb; replace HB := hb_ HB hb; (try clear hb); (try clear hb2); (try clear hk); (try clear hi)))
    go_ret3
    exact ⟨_, by rfl, by exact HO0.out, by repeat ((with_reducible (exact HB.out)))⟩

/-! ### ring_Put: function 25 -/
def ring_Put.f (l0_0 : List Int) (a0_1 : Int) (a0_2 : Int) (a1 : Int) : Option (List Int × Int × Int) := (ring_Push.f l0_0 a0_1 a0_2 a1).bind fun bt199 => (if bt199.2.2.2 = 3 then ((ring_Pop.f l0_0 a0_1 a0_2).bind fun bt206 => ((ring_Push.f bt206.2.1 bt206.2.2.1 bt206.2.2.2.1 a1).bind fun bt213 => (some (bt213.1, bt213.2.1, bt213.2.2.1)))) else (some (bt199.1, bt199.2.1, bt199.2.2.1)))
set_option maxHeartbeats 8000000 in
set_option maxRecDepth 100000 in
theorem ring_Put.calls (P0_0_ : Nat → Prop) (A0_0 : Option Addr) (c0_0 : Nat) (l0_0 : List Int) (a0_1 : Int) (a0_2 : Int) (a1 : Int) (r1 : List Int) (r2 : Int) (r3 : Int) (w : World) (hs0_0 : Kd.V (Kd.int .i64) 3 w w.heap.size (fun k_ => P0_0_ k_) (.slice A0_0 l0_0.length c0_0) l0_0) (h : ring_Put.f l0_0 a0_1 a0_2 a1 = some (r1, r2, r3)) :
    Calls Try.prog 25 #[.agg #[.slice A0_0 l0_0.length c0_0, .int .i64 a0_1, .int .i64 a0_2], .int .i64 a1] w fun e w' => ∃ v0_ : Value, e = .returned (.agg #[v0_, .int .i64 r2, .int .i64 r3]) ∧ Kd.V (Kd.int .i64) 3 w' w.heap.size (fun k_ => (P0_0_ k_ ∨ w.heap.size ≤ k_)) v0_ r1 ∧ Below w.heap.size w w' := by
  have hu24 := Try.underlying24
  have HO0_0 := Aside0.mk (show Kd.V (Kd.int .i64) 3 w w.heap.size (fun k_ => (P0_0_ k_ ∨ w.heap.size ≤ k_)) (.slice A0_0 l0_0.length c0_0) l0_0 from Kd.V_mono hs0_0 (fun k_ hk => .inl hk))
  have HB := Aside0.mk (Below.refl w.heap.size w)
  have H : ((ring_Push.f l0_0 a0_1 a0_2 a1).bind fun bt199 => (if bt199.2.2.2 = 3 then ((ring_Pop.f l0_0 a0_1 a0_2).bind fun bt206 => ((ring_Push.f bt206.2.1 bt206.2.2.1 bt206.2.2.2.1 a1).bind fun bt213 => (some (bt213.1, bt213.2.1, bt213.2.2.1)))) else (some (bt199.1, bt199.2.1, bt199.2.2.1)))) = some (r1, r2, r3) := h
  clear h
  replace H := Option.bind_eq_some_iff.mp H
  obtain ⟨⟨t199, t202, t203, t204⟩, A30, H⟩ := H
  replace H : (if t204 = 3 then ((ring_Pop.f l0_0 a0_1 a0_2).bind fun bt206 => ((ring_Push.f bt206.2.1 bt206.2.2.1 bt206.2.2.2.1 a1).bind fun bt213 => (some (bt213.1, bt213.2.1, bt213.2.2.1)))) else (some (t199, t202, t203))) = some (r1, r2, r3) := H
  have A3 := Aside0.mk A30
  clear A30
  by_cases c4 : t204 = 3
  · rw [if_pos c4] at H
    have c4b0 : (t204 == 3) = true := beq_iff_eq.mpr c4
    have c4b1 : (t204 != 3) = false := bne_eq_false_iff_eq.mpr c4
    clear c4
    replace H := Option.bind_eq_some_iff.mp H
    obtain ⟨⟨t206, t207, t210, t211, t212⟩, A50, H⟩ := H
    replace H : ((ring_Push.f t207 t210 t211 a1).bind fun bt213 => (some (bt213.1, bt213.2.1, bt213.2.2.1))) = some (r1, r2, r3) := H
    have A5 := Aside0.mk A50
    clear A50
    replace H := Option.bind_eq_some_iff.mp H
    obtain ⟨⟨t213, t216, t217, t218⟩, A60, H⟩ := H
    replace H : (some (t213, t216, t217)) = some (r1, r2, r3) := H
    have A6 := Aside0.mk A60
    clear A60
    simp only [Option.some.injEq, Prod.mk.injEq] at H
    obtain ⟨rfl, rfl, rfl⟩ := H
    go_enter Try.func25, Try.ntmps25
    go_wp2_with (first | ((with_reducible refine gate_dst (N := 2) rfl ?_); refine box_event ?hg (N := 2) ?hd (cs := #[.slice A0_0 l0_0.length c0_0, .int .i64 a0_1, .int .i64 a0_2]) (t := 24) ?hr ?_; (case hd => rfl); (case hg => rfl); (case hr => (go_simp; done)); intro gb197 hg w7 hbox hb; have n0_ := Aside0.mk (Kd.V_below (Kd.V_elderB HO0_0.out gb197 (Nat.le_of_eq hg.symm)) hb); have n2_ := Aside0.mk (hbox); have n3_ := Aside0.mk ((by rw [hg]; exact (below_size HB.out) : w.heap.size ≤ gb197)); have n4_ := Aside0.mk ((by rw [hg]; exact (below_size HB.out) : w.heap.size ≤ gb197)); clear HO0_0; have HO0_0 := n0_; have BK197 := n2_; have GW197 := n3_; have GE197 := n4_; clear n0_ n2_ n3_ n4_; replace HB := hb_ HB hb; clear hb hbox hg) | ((with_reducible refine gate_dst (N := 4) rfl ?_); refine box_event ?hg (N := 4) ?hd (cs := #[.slice none 0 0, .int .i64 0, .int .i64 0]) (t := 24) ?hr ?_; (case hd => rfl); (case hg => rfl); (case hr => (go_simp; done)); intro gb198 hg w8 hbox hb; have n0_ := Aside0.mk (Kd.V_below (Kd.V_elderB HO0_0.out gb198 (Nat.le_of_eq hg.symm)) hb); have n3_ := Aside0.mk (hbox); have n4_ := Aside0.mk ((by rw [hg]; exact (below_size HB.out) : w.heap.size ≤ gb198)); have n5_ := Aside0.mk ((by rw [hg]; exact (below_size HB.out) : w.heap.size ≤ gb198)); have n6_ := Aside0.mk ((by rw [hg]; exact Nat.ne_of_lt (blk_lt BK197.out) : gb197 ≠ gb198)); have n7_ := Aside0.mk ((by rw [hg]; exact Nat.ne_of_gt (blk_lt BK197.out) : gb198 ≠ gb197)); clear HO0_0; have HO0_0 := n0_; have BK198 := n3_; have GW198 := n4_; have GE198 := n5_; have NB197_198 := n6_; have NB198_197 := n7_; clear n0_ n3_ n4_ n5_ n6_ n7_; replace BK197 := kb_ BK197 hb; replace HB := hb_ HB hb; clear hb hbox hg; have hnb9 := NB197_198.out; have hnc9 := NB198_197.out; obtain ⟨_, _, _, _, _, _⟩ := bk3_ BK197.out) | ((with_reducible refine gate_callee (f := 21) rfl ?_); refine goesL_ (some 12) rfl rfl Try.func21 (by kernel_rfl) rfl #[.agg #[.slice A0_0 l0_0.length c0_0, .int .i64 a0_1, .int .i64 a0_2], .int .i64 a1] rfl (by (try simp only [List.map_toArray, List.map_cons, List.map_nil]); rfl) ?_; (with_reducible refine (ring_Push.calls (fun k_ => (((P0_0_ k_ ∨ w.heap.size ≤ k_) ∧ k_ ≠ gb197) ∧ k_ ≠ gb198)) _ _ l0_0 a0_1 a0_2 a1 t199 t202 t203 t204 _ ?side1 A3.out).mono ?_); (case side1 => exact HO0_0.out); rintro e w11 ⟨v200, rfl, ho0, hb⟩; refine ⟨_, rfl, ?_⟩; have n1_ := Aside0.mk (Kd.V_lower (Kd.V_mono (ok' := fun k_ => (P0_0_ k_ ∨ w.heap.size ≤ k_) ∧ k_ ≠ gb197 ∧ k_ ≠ gb198) ho0 (fun k_ hk_ => ⟨Or.elim hk_ (fun hs_ => hs_.1.1) (fun hn_ => (.inr (Nat.le_trans (below_size HB.out) hn_))), Or.elim hk_ (fun hs_ => hs_.1.2) (fun hn_ => (Kd.freshB BK197.out k_ hn_)), Or.elim hk_ (fun hs_ => hs_.2) (fun hn_ => (Kd.freshB BK198.out k_ hn_))⟩)) (below_size HB.out)); have HO201 := n1_; clear n1_; replace HO0_0 := vb_ HO0_0 hb; replace BK197 := kb_ BK197 hb; replace BK198 := kb_ BK198 hb; replace HB := hb_ HB hb; (try clear hb); (try clear hb2); (try clear hk); (try clear hi); (try clear ho0)) | ((with_reducible refine gate_dst (N := 5) rfl ?_); refine box_event ?hg (N := 5) ?hd (cs := #[.slice none 0 0, .int .i64 0, .int .i64 0]) (t := 24) ?hr ?_; (case hd => rfl); (case hg => rfl); (case hr => (go_simp; done)); intro gb205 hg w12 hbox hb; have n0_ := Aside0.mk (Kd.V_below (Kd.V_elderB HO0_0.out gb205 (Nat.le_of_eq hg.symm)) hb); have n1_ := Aside0.mk (Kd.V_below (Kd.V_elderB HO201.out gb205 (Nat.le_of_eq hg.symm)) hb); have n5_ := Aside0.mk (hbox); have n6_ := Aside0.mk ((by rw [hg]; exact (below_size HB.out) : w.heap.size ≤ gb205)); have n7_ := Aside0.mk ((by rw [hg]; exact (below_size HB.out) : w.heap.size ≤ gb205)); have n8_ := Aside0.mk ((by rw [hg]; exact Nat.ne_of_lt (blk_lt BK197.out) : gb197 ≠ gb205)); have n9_ := Aside0.mk ((by rw [hg]; exact Nat.ne_of_gt (blk_lt BK197.out) : gb205 ≠ gb197)); have n10_ := Aside0.mk ((by rw [hg]; exact Nat.ne_of_lt (blk_lt BK198.out) : gb198 ≠ gb205)); have n11_ := Aside0.mk ((by rw [hg]; exact Nat.ne_of_gt (blk_lt BK198.out) : gb205 ≠ gb198)); clear HO0_0 HO201; have HO0_0 := n0_; have HO201 := n1_; have BK205 := n5_; have GW205 := n6_; have GE205 := n7_; have NB197_205 := n8_; have NB205_197 := n9_; have NB198_205 := n10_; have NB205_198 := n11_; clear n0_ n1_ n5_ n6_ n7_ n8_ n9_ n10_ n11_; replace BK197 := kb_ BK197 hb; replace BK198 := kb_ BK198 hb; replace HB := hb_ HB hb; clear hb hbox hg; obtain ⟨Ao13, co13, eo13⟩ := Kd.V_slice HO201.out; subst eo13; have hnb14 := NB205_197.out; have hnc14 := NB197_205.out; have hnb15 := NB205_198.out; have hnc15 := NB198_205.out; obtain ⟨_, _, _, _, _, _⟩ := bk3_ BK205.out) | ((with_reducible refine gate_store (t := 24) (p := 5) rfl ?_); refine store_event (t := 24) (p := 5) (v := ?vo_w17) (w1 := (((w12.setCell ⟨gb205, 0, none⟩ (.slice Ao13 t199.length co13)).setCell ⟨gb205, 1, none⟩ (.int .i64 t202)).setCell ⟨gb205, 2, none⟩ (.int .i64 t203))) ?hg ?ho ?hn ?hr ?_; (case ho => rfl); (case hg => rfl); (case hn => rfl); (case hr => (go_simp; done)); intro w17 hw; have n0_ : Aside0 (Kd.V (Kd.int .i64) 3 w17 w.heap.size (fun k_ => (P0_0_ k_ ∨ w.heap.size ≤ k_) ∧ k_ ≠ gb197 ∧ k_ ≠ gb198 ∧ k_ ≠ gb205) (.slice A0_0 l0_0.length c0_0) l0_0) := ⟨(by rw [hw]; exact (by exact Kd.V_mono (vf3_ (Kd.V_mono HO0_0.out (fun k_ hk => (⟨hk, hk.2⟩ : _ ∧ k_ ≠ gb205))) (fun _ hk => hk.2)) (fun _ hk => ⟨hk.1.1.1.1, ⟨hk.1.1.1.2, ⟨hk.1.1.2, hk.1.2⟩⟩⟩)))⟩; have n1_ : Aside0 (Kd.V (Kd.int .i64) 3 w17 w.heap.size (fun k_ => (P0_0_ k_ ∨ w.heap.size ≤ k_) ∧ k_ ≠ gb197 ∧ k_ ≠ gb198 ∧ k_ ≠ gb205) (.slice Ao13 t199.length co13) t199) := ⟨(by rw [hw]; exact (by exact Kd.V_mono (vf3_ (Kd.V_mono HO201.out (fun k_ hk => (⟨hk, hk.2⟩ : _ ∧ k_ ≠ gb205))) (fun _ hk => hk.2)) (fun _ hk => ⟨hk.1.1.1, ⟨hk.1.1.2.1, ⟨hk.1.1.2.2, hk.1.2⟩⟩⟩)))⟩; have n2_ : Aside0 (w17.heap[gb197]? = some (.cells #[.slice A0_0 l0_0.length c0_0, .int .i64 a0_1, .int .i64 a0_2] 24 (0, 0))) := ⟨(by rw [hw]; exact (by refine blk_far ?_ NB197_205.out _; refine blk_far ?_ NB197_205.out _; refine blk_far ?_ NB197_205.out _; exact BK197.out))⟩; have n3_ : Aside0 (w17.heap[gb198]? = some (.cells #[.slice none 0 0, .int .i64 0, .int .i64 0] 24 (0, 0))) := ⟨(by rw [hw]; exact (by refine blk_far ?_ NB198_205.out _; refine blk_far ?_ NB198_205.out _; refine blk_far ?_ NB198_205.out _; exact BK198.out))⟩; have n4_ : Aside0 (w17.heap[gb205]? = some (.cells #[.slice Ao13 t199.length co13, .int .i64 t202, .int .i64 t203] 24 (0, 0))) := ⟨(by rw [hw]; exact (by exact bp3_ BK205.out))⟩; have n5_ : Aside0 (Below w.heap.size w w17) := ⟨(by rw [hw]; exact (by repeat ((with_reducible first | exact HB.out | refine below_set ?_ GE205.out))))⟩; clear hw; clear HO0_0; clear HO201; clear BK197; clear BK198; clear BK205; clear HB; have HO0_0 := n0_; have HO201 := n1_; have BK197 := n2_; have BK198 := n3_; have BK205 := n4_; have HB := n5_; clear n0_ n1_ n2_ n3_ n4_ n5_; obtain ⟨_, _, _, _, _, _⟩ := bk3_ BK197.out) | ((with_reducible refine gate_callee (f := 23) rfl ?_); refine goesL_ (some 20) rfl rfl Try.func23 (by kernel_rfl) rfl #[.agg #[.slice A0_0 l0_0.length c0_0, .int .i64 a0_1, .int .i64 a0_2]] rfl (by (try simp only [List.map_toArray, List.map_cons, List.map_nil]); rfl) ?_; (with_reducible refine (ring_Pop.calls (fun k_ => ((P0_0_ k_ ∨ w.heap.size ≤ k_) ∧ (k_ ≠ gb197 ∧ (k_ ≠ gb198 ∧ k_ ≠ gb205)))) _ _ l0_0 a0_1 a0_2 t206 t207 t210 t211 t212 _ ?side1 A5.out).mono ?_); (case side1 => exact HO0_0.out); rintro e w19 ⟨v208, rfl, ho0, hb⟩; refine ⟨_, rfl, ?_⟩; have n2_ := Aside0.mk (Kd.V_lower (Kd.V_mono (ok' := fun k_ => (P0_0_ k_ ∨ w.heap.size ≤ k_) ∧ k_ ≠ gb197 ∧ k_ ≠ gb198 ∧ k_ ≠ gb205) ho0 (fun k_ hk_ => ⟨Or.elim hk_ (fun hs_ => hs_.1) (fun hn_ => (.inr (Nat.le_trans (below_size HB.out) hn_))), Or.elim hk_ (fun hs_ => hs_.2.1) (fun hn_ => (Kd.freshB BK197.out k_ hn_)), Or.elim hk_ (fun hs_ => hs_.2.2.1) (fun hn_ => (Kd.freshB BK198.out k_ hn_)), Or.elim hk_ (fun hs_ => hs_.2.2.2) (fun hn_ => (Kd.freshB BK205.out k_ hn_))⟩)) (below_size HB.out)); have HO209 := n2_; clear n2_; replace HO0_0 := vb_ HO0_0 hb; replace HO201 := vb_ HO201 hb; replace BK197 := kb_ BK197 hb; replace BK198 := kb_ BK198 hb; replace BK205 := kb_ BK205 hb; replace HB := hb_ HB hb; (try clear hb); (try clear hb2); (try clear hk); (try clear hi); (try clear ho0); obtain ⟨Ao20, co20, eo20⟩ := Kd.V_slice HO209.out; subst eo20; obtain ⟨_, _, _, _, _, _⟩ := bk3_ BK197.out) | ((with_reducible refine gate_store (t := 24) (p := 2) rfl ?_); refine store_event (t := 24) (p := 2) (v := ?vo_w22) (w1 := (((w19.setCell ⟨gb197, 0, none⟩ (.slice Ao20 t207.length co20)).setCell ⟨gb197, 1, none⟩ (.int .i64 t210)).setCell ⟨gb197, 2, none⟩ (.int .i64 t211))) ?hg ?ho ?hn ?hr ?_; (case ho => rfl); (case hg => rfl); (case hn => rfl); (case hr => (go_simp; done)); intro w22 hw; have n0_ : Aside0 (Kd.V (Kd.int .i64) 3 w22 w.heap.size (fun k_ => (P0_0_ k_ ∨ w.heap.size ≤ k_) ∧ k_ ≠ gb197 ∧ k_ ≠ gb198 ∧ k_ ≠ gb205) (.slice A0_0 l0_0.length c0_0) l0_0) := ⟨(by rw [hw]; exact (by exact Kd.V_mono (vf3_ (Kd.V_mono HO0_0.out (fun k_ hk => (⟨hk, hk.2.1⟩ : _ ∧ k_ ≠ gb197))) (fun _ hk => hk.2)) (fun _ hk => ⟨hk.1.1, ⟨hk.1.2.1, ⟨hk.1.2.2.1, hk.1.2.2.2⟩⟩⟩)))⟩; have n1_ : Aside0 (Kd.V (Kd.int .i64) 3 w22 w.heap.size (fun k_ => (P0_0_ k_ ∨ w.heap.size ≤ k_) ∧ k_ ≠ gb197 ∧ k_ ≠ gb198 ∧ k_ ≠ gb205) (.slice Ao13 t199.length co13) t199) := ⟨(by rw [hw]; exact (by exact Kd.V_mono (vf3_ (Kd.V_mono HO201.out (fun k_ hk => (⟨hk, hk.2.1⟩ : _ ∧ k_ ≠ gb197))) (fun _ hk => hk.2)) (fun _ hk => ⟨hk.1.1, ⟨hk.1.2.1, ⟨hk.1.2.2.1, hk.1.2.2.2⟩⟩⟩)))⟩; have n2_ : Aside0 (Kd.V (Kd.int .i64) 3 w22 w.heap.size (fun k_ => (P0_0_ k_ ∨ w.heap.size ≤ k_) ∧ k_ ≠ gb197 ∧ k_ ≠ gb198 ∧ k_ ≠ gb205) (.slice Ao20 t207.length co20) t207) := ⟨(by rw [hw]; exact (by exact Kd.V_mono (vf3_ (Kd.V_mono HO209.out (fun k_ hk => (⟨hk, hk.2.1⟩ : _ ∧ k_ ≠ gb197))) (fun _ hk => hk.2)) (fun _ hk => ⟨hk.1.1, ⟨hk.1.2.1, ⟨hk.1.2.2.1, hk.1.2.2.2⟩⟩⟩)))⟩; have n3_ : Aside0 (w22.heap[gb197]? = some (.cells #[.slice Ao20 t207.length co20, .int .i64 t210, .int .i64 t211] 24 (0, 0))) := ⟨(by rw [hw]; exact (by exact bp3_ BK197.out))⟩; have n4_ : Aside0 (w22.heap[gb198]? = some (.cells #[.slice none 0 0, .int .i64 0, .int .i64 0] 24 (0, 0))) := ⟨(by rw [hw]; exact (by refine blk_far ?_ NB198_197.out _; refine blk_far ?_ NB198_197.out _; refine blk_far ?_ NB198_197.out _; exact BK198.out))⟩; have n5_ : Aside0 (w22.heap[gb205]? = some (.cells #[.slice Ao13 t199.length co13, .int .i64 t202, .int .i64 t203] 24 (0, 0))) := ⟨(by rw [hw]; exact (by refine blk_far ?_ NB205_197.out _; refine blk_far ?_ NB205_197.out _; refine blk_far ?_ NB205_197.out _; exact BK205.out))⟩; have n6_ : Aside0 (Below w.heap.size w w22) := ⟨(by rw [hw]; exact (by repeat ((with_reducible first | exact HB.out | refine below_set ?_ GE197.out))))⟩; clear hw; clear HO0_0; clear HO201; clear HO209; clear BK197; clear BK198; clear BK205; clear HB; have HO0_0 := n0_; have HO201 := n1_; have HO209 := n2_; have BK197 := n3_; have BK198 := n4_; have BK205 := n5_; have HB := n6_; clear n0_ n1_ n2_ n3_ n4_ n5_ n6_; obtain ⟨_, _, _, _, _, _⟩ := bk3_ BK197.out) | ((with_reducible refine gate_callee (f := 21) rfl ?_); refine goesL_ (some 27) rfl rfl Try.func21 (by kernel_rfl) rfl #[.agg #[.slice Ao20 t207.length co20, .int .i64 t210, .int .i64 t211], .int .i64 a1] rfl (by (try simp only [List.map_toArray, List.map_cons, List.map_nil]); rfl) ?_; (with_reducible refine (ring_Push.calls (fun k_ => ((P0_0_ k_ ∨ w.heap.size ≤ k_) ∧ (k_ ≠ gb197 ∧ (k_ ≠ gb198 ∧ k_ ≠ gb205)))) _ _ t207 t210 t211 a1 t213 t216 t217 t218 _ ?side1 A6.out).mono ?_); (case side1 => exact HO209.out); rintro e w24 ⟨v214, rfl, ho0, hb⟩; refine ⟨_, rfl, ?_⟩; have n3_ := Aside0.mk (Kd.V_lower (Kd.V_mono (ok' := fun k_ => (P0_0_ k_ ∨ w.heap.size ≤ k_) ∧ k_ ≠ gb197 ∧ k_ ≠ gb198 ∧ k_ ≠ gb205) ho0 (fun k_ hk_ => ⟨Or.elim hk_ (fun hs_ => hs_.1) (fun hn_ => (.inr (Nat.le_trans (below_size HB.out) hn_))), Or.elim hk_ (fun hs_ => hs_.2.1) (fun hn_ => (Kd.freshB BK197.out k_ hn_)), Or.elim hk_ (fun hs_ => hs_.2.2.1) (fun hn_ => (Kd.freshB BK198.out k_ hn_)), Or.elim hk_ (fun hs_ => hs_.2.2.2) (fun hn_ => (Kd.freshB BK205.out k_ hn_))⟩)) (below_size HB.out)); have HO215 := n3_; clear n3_; replace HO0_0 := vb_ HO0_0 hb; replace HO201 := vb_ HO201 hb; replace HO209 := vb_ HO209 hb; replace BK197 := kb_ BK197 hb; replace BK198 := kb_ BK198 hb; replace BK205 := kb_ BK205 hb; replace HB := hb_ HB hb; (try clear hb); (try clear hb2); (try clear hk); (try clear hi); (try clear ho0)) | ((with_reducible refine gate_dst (N := 7) rfl ?_); refine box_event ?hg (N := 7) ?hd (cs := #[.slice none 0 0, .int .i64 0, .int .i64 0]) (t := 24) ?hr ?_; (case hd => rfl); (case hg => rfl); (case hr => (go_simp; done)); intro gb219 hg w25 hbox hb; have n0_ := Aside0.mk (Kd.V_below (Kd.V_elderB HO0_0.out gb219 (Nat.le_of_eq hg.symm)) hb); have n1_ := Aside0.mk (Kd.V_below (Kd.V_elderB HO201.out gb219 (Nat.le_of_eq hg.symm)) hb); have n2_ := Aside0.mk (Kd.V_below (Kd.V_elderB HO209.out gb219 (Nat.le_of_eq hg.symm)) hb); have n3_ := Aside0.mk (Kd.V_below (Kd.V_elderB HO215.out gb219 (Nat.le_of_eq hg.symm)) hb); have n8_ := Aside0.mk (hbox); have n9_ := Aside0.mk ((by rw [hg]; exact (below_size HB.out) : w.heap.size ≤ gb219)); have n10_ := Aside0.mk ((by rw [hg]; exact (below_size HB.out) : w.heap.size ≤ gb219)); have n11_ := Aside0.mk ((by rw [hg]; exact Nat.ne_of_lt (blk_lt BK197.out) : gb197 ≠ gb219)); have n12_ := Aside0.mk ((by rw [hg]; exact Nat.ne_of_gt (blk_lt BK197.out) : gb219 ≠ gb197)); have n13_ := Aside0.mk ((by rw [hg]; exact Nat.ne_of_lt (blk_lt BK198.out) : gb198 ≠ gb219)); have n14_ := Aside0.mk ((by rw [hg]; exact Nat.ne_of_gt (blk_lt BK198.out) : gb219 ≠ gb198)); have n15_ := Aside0.mk ((by rw [hg]; exact Nat.ne_of_lt (blk_lt BK205.out) : gb205 ≠ gb219)); have n16_ := Aside0.mk ((by rw [hg]; exact Nat.ne_of_gt (blk_lt BK205.out) : gb219 ≠ gb205)); clear HO0_0 HO201 HO209 HO215; have HO0_0 := n0_; have HO201 := n1_; have HO209 := n2_; have HO215 := n3_; have BK219 := n8_; have GW219 := n9_; have GE219 := n10_; have NB197_219 := n11_; have NB219_197 := n12_; have NB198_219 := n13_; have NB219_198 := n14_; have NB205_219 := n15_; have NB219_205 := n16_; clear n0_ n1_ n2_ n3_ n8_ n9_ n10_ n11_ n12_ n13_ n14_ n15_ n16_; replace BK197 := kb_ BK197 hb; replace BK198 := kb_ BK198 hb; replace BK205 := kb_ BK205 hb; replace HB := hb_ HB hb; clear hb hbox hg; obtain ⟨Ao26, co26, eo26⟩ := Kd.V_slice HO215.out; subst eo26; have hnb27 := NB219_197.out; have hnc27 := NB197_219.out; have hnb28 := NB219_198.out; have hnc28 := NB198_219.out; have hnb29 := NB219_205.out; have hnc29 := NB205_219.out; obtain ⟨_, _, _, _, _, _⟩ := bk3_ BK219.out; obtain ⟨_, _, _, _, _, _⟩ := bk3_ BK198.out))
    refine bodyPost_ret (results_cell_row rfl _ _ gb198 24 #[.slice Ao26 t213.length co26, .int .i64 t216, .int .i64 t217] (0, 0) _ rfl (by refine blk_put (cs := #[.slice Ao26 t213.length co26, .int .i64 t216, .int .i64 0]) ?_ 2 _ rfl; refine blk_put (cs := #[.slice Ao26 t213.length co26, .int .i64 0, .int .i64 0]) ?_ 1 _ rfl; refine blk_put (cs := #[.slice none 0 0, .int .i64 0, .int .i64 0]) ?_ 0 _ rfl; refine blk_far ?_ NB198_219.out _; refine blk_far ?_ NB198_219.out _; refine blk_far ?_ NB198_219.out _; exact BK198.out) Try.underlying24 rfl (by kernel_rfl)) rfl ?_
    exact ⟨_, by rfl, by exact Kd.V_mono (vf3_ (vf3_ (Kd.V_mono (Kd.V_mono HO215.out (fun k_ hk => (⟨hk, hk.2⟩ : _ ∧ k_ ≠ gb219))) (fun k_ hk => (⟨hk, hk.1.1.2.2.1⟩ : _ ∧ k_ ≠ gb198))) (fun _ hk => hk.1.2)) (fun _ hk => hk.2)) (fun _ hk => hk.1.1.1.1), by repeat ((with_reducible first | exact HB.out | refine below_set ?_ GE198.out | refine below_set ?_ GE219.out))⟩
  · rw [if_neg c4] at H
    have c4b0 : (t204 == 3) = false := beq_eq_false_iff_ne.mpr c4
    have c4b1 : (t204 != 3) = true := bne_iff_ne.mpr c4
    simp only [Option.some.injEq, Prod.mk.injEq] at H
    obtain ⟨rfl, rfl, rfl⟩ := H
    go_enter Try.func25, Try.ntmps25
    go_wp2_with (first | ((with_reducible refine gate_dst (N := 2) rfl ?_); refine box_event ?hg (N := 2) ?hd (cs := #[.slice A0_0 l0_0.length c0_0, .int .i64 a0_1, .int .i64 a0_2]) (t := 24) ?hr ?_; (case hd => rfl); (case hg => rfl); (case hr => (go_simp; done)); intro gb197 hg w32 hbox hb; have n0_ := Aside0.mk (Kd.V_below (Kd.V_elderB HO0_0.out gb197 (Nat.le_of_eq hg.symm)) hb); have n2_ := Aside0.mk (hbox); have n3_ := Aside0.mk ((by rw [hg]; exact (below_size HB.out) : w.heap.size ≤ gb197)); have n4_ := Aside0.mk ((by rw [hg]; exact (below_size HB.out) : w.heap.size ≤ gb197)); clear HO0_0; have HO0_0 := n0_; have BK197 := n2_; have GW197 := n3_; have GE197 := n4_; clear n0_ n2_ n3_ n4_; replace HB := hb_ HB hb; clear hb hbox hg) | ((with_reducible refine gate_dst (N := 4) rfl ?_); refine box_event ?hg (N := 4) ?hd (cs := #[.slice none 0 0, .int .i64 0, .int .i64 0]) (t := 24) ?hr ?_; (case hd => rfl); (case hg => rfl); (case hr => (go_simp; done)); intro gb198 hg w33 hbox hb; have n0_ := Aside0.mk (Kd.V_below (Kd.V_elderB HO0_0.out gb198 (Nat.le_of_eq hg.symm)) hb); have n3_ := Aside0.mk (hbox); have n4_ := Aside0.mk ((by rw [hg]; exact (below_size HB.out) : w.heap.size ≤ gb198)); have n5_ := Aside0.mk ((by rw [hg]; exact (below_size HB.out) : w.heap.size ≤ gb198)); have n6_ := Aside0.mk ((by rw [hg]; exact Nat.ne_of_lt (blk_lt BK197.out) : gb197 ≠ gb198)); have n7_ := Aside0.mk ((by rw [hg]; exact Nat.ne_of_gt (blk_lt BK197.out) : gb198 ≠ gb197)); clear HO0_0; have HO0_0 := n0_; have BK198 := n3_; have GW198 := n4_; have GE198 := n5_; have NB197_198 := n6_; have NB198_197 := n7_; clear n0_ n3_ n4_ n5_ n6_ n7_; replace BK197 := kb_ BK197 hb; replace HB := hb_ HB hb; clear hb hbox hg; have hnb34 := NB197_198.out; have hnc34 := NB198_197.out; obtain ⟨_, _, _, _, _, _⟩ := bk3_ BK197.out) | ((with_reducible refine gate_callee (f := 21) rfl ?_); refine goesL_ (some 12) rfl rfl Try.func21 (by kernel_rfl) rfl #[.agg #[.slice A0_0 l0_0.length c0_0, .int .i64 a0_1, .int .i64 a0_2], .int .i64 a1] rfl (by (try simp only [List.map_toArray, List.map_cons, List.map_nil]); rfl) ?_; (with_reducible refine (ring_Push.calls (fun k_ => (((P0_0_ k_ ∨ w.heap.size ≤ k_) ∧ k_ ≠ gb197) ∧ k_ ≠ gb198)) _ _ l0_0 a0_1 a0_2 a1 t199 t202 t203 t204 _ ?side1 A3.out).mono ?_); (case side1 => exact HO0_0.out); rintro e w36 ⟨v200, rfl, ho0, hb⟩; refine ⟨_, rfl, ?_⟩; have n1_ := Aside0.mk (Kd.V_lower (Kd.V_mono (ok' := fun k_ => (P0_0_ k_ ∨ w.heap.size ≤ k_) ∧ k_ ≠ gb197 ∧ k_ ≠ gb198) ho0 (fun k_ hk_ => ⟨Or.elim hk_ (fun hs_ => hs_.1.1) (fun hn_ => (.inr (Nat.le_trans (below_size HB.out) hn_))), Or.elim hk_ (fun hs_ => hs_.1.2) (fun hn_ => (Kd.freshB BK197.out k_ hn_)), Or.elim hk_ (fun hs_ => hs_.2) (fun hn_ => (Kd.freshB BK198.out k_ hn_))⟩)) (below_size HB.out)); have HO201 := n1_; clear n1_; replace HO0_0 := vb_ HO0_0 hb; replace BK197 := kb_ BK197 hb; replace BK198 := kb_ BK198 hb; replace HB := hb_ HB hb; (try clear hb); (try clear hb2); (try clear hk); (try clear hi); (try clear ho0)) | ((with_reducible refine gate_dst (N := 5) rfl ?_); refine box_event ?hg (N := 5) ?hd (cs := #[.slice none 0 0, .int .i64 0, .int .i64 0]) (t := 24) ?hr ?_; (case hd => rfl); (case hg => rfl); (case hr => (go_simp; done)); intro gb205 hg w37 hbox hb; have n0_ := Aside0.mk (Kd.V_below (Kd.V_elderB HO0_0.out gb205 (Nat.le_of_eq hg.symm)) hb); have n1_ := Aside0.mk (Kd.V_below (Kd.V_elderB HO201.out gb205 (Nat.le_of_eq hg.symm)) hb); have n5_ := Aside0.mk (hbox); have n6_ := Aside0.mk ((by rw [hg]; exact (below_size HB.out) : w.heap.size ≤ gb205)); have n7_ := Aside0.mk ((by rw [hg]; exact (below_size HB.out) : w.heap.size ≤ gb205)); have n8_ := Aside0.mk ((by rw [hg]; exact Nat.ne_of_lt (blk_lt BK197.out) : gb197 ≠ gb205)); have n9_ := Aside0.mk ((by rw [hg]; exact Nat.ne_of_gt (blk_lt BK197.out) : gb205 ≠ gb197)); have n10_ := Aside0.mk ((by rw [hg]; exact Nat.ne_of_lt (blk_lt BK198.out) : gb198 ≠ gb205)); have n11_ := Aside0.mk ((by rw [hg]; exact Nat.ne_of_gt (blk_lt BK198.out) : gb205 ≠ gb198)); clear HO0_0 HO201; have HO0_0 := n0_; have HO201 := n1_; have BK205 := n5_; have GW205 := n6_; have GE205 := n7_; have NB197_205 := n8_; have NB205_197 := n9_; have NB198_205 := n10_; have NB205_198 := n11_; clear n0_ n1_ n5_ n6_ n7_ n8_ n9_ n10_ n11_; replace BK197 := kb_ BK197 hb; replace BK198 := kb_ BK198 hb; replace HB := hb_ HB hb; clear hb hbox hg; obtain ⟨Ao38, co38, eo38⟩ := Kd.V_slice HO201.out; subst eo38; have hnb39 := NB205_197.out; have hnc39 := NB197_205.out; have hnb40 := NB205_198.out; have hnc40 := NB198_205.out; obtain ⟨_, _, _, _, _, _⟩ := bk3_ BK205.out; obtain ⟨_, _, _, _, _, _⟩ := bk3_ BK198.out))
    refine bodyPost_ret (results_cell_row rfl _ _ gb198 24 #[.slice Ao38 t199.length co38, .int .i64 t202, .int .i64 t203] (0, 0) _ rfl (by refine blk_put (cs := #[.slice Ao38 t199.length co38, .int .i64 t202, .int .i64 0]) ?_ 2 _ rfl; refine blk_put (cs := #[.slice Ao38 t199.length co38, .int .i64 0, .int .i64 0]) ?_ 1 _ rfl; refine blk_put (cs := #[.slice none 0 0, .int .i64 0, .int .i64 0]) ?_ 0 _ rfl; refine blk_far ?_ NB198_205.out _; refine blk_far ?_ NB198_205.out _; refine blk_far ?_ NB198_205.out _; exact BK198.out) Try.underlying24 rfl (by kernel_rfl)) rfl ?_
    exact ⟨_, by rfl, by exact Kd.V_mono (vf3_ (vf3_ (Kd.V_mono (Kd.V_mono HO201.out (fun k_ hk => (⟨hk, hk.2⟩ : _ ∧ k_ ≠ gb205))) (fun k_ hk => (⟨hk, hk.1.1.2.2⟩ : _ ∧ k_ ≠ gb198))) (fun _ hk => hk.1.2)) (fun _ hk => hk.2)) (fun _ hk => hk.1.1.1.1), by repeat ((with_reducible first | exact HB.out | refine below_set ?_ GE198.out | refine below_set ?_ GE205.out))⟩

end Go.Proofs.Yteddflcloeelhaa.FDeliv
