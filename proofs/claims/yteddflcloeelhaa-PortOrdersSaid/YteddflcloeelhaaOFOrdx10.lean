-- Written by the session (wip/tools) for this claim: functions of the program as Lean functions, and their contracts.
import Derived.Test.YteddflcloeelhaaOFOrdx0
import Derived.Test.YteddflcloeelhaaOFOrdx2
import Derived.Test.YteddflcloeelhaaOFOrdx3
import Derived.Test.YteddflcloeelhaaOFOrdx4
import Derived.Test.YteddflcloeelhaaOFOrdx5
import Derived.Test.YteddflcloeelhaaOFOrdx6
import Derived.Test.YteddflcloeelhaaOFOrdx8
import Derived.Test.YteddflcloeelhaaOFOrdx9
namespace Go.Proofs.Yteddflcloeelhaa.FOrd
open Go.RowKit Go.Proofs.YteddflcloeelhaaW.PrintWords Go.Proofs.YteddflcloeelhaaW.PrintLast Go.Proofs.YteddflcloeelhaaW.PrintMore
attribute [local go_sem] max2_int min2_int max_two min_two max_three min_three max_four min_four   -- for this text's walks alone
set_option linter.unusedVariables false
set_option linter.unusedSimpArgs false

/-! ### remontoirlaw18_PortOrders: function 11 -/
mutual
def remontoirlaw18_PortOrders.l0 : Nat → Int → List Int → List (S76) → Int → Int → Int → Int → Int → List Int → List Int → Option (Bool)
  | 0, _, _, _, _, _, _, _, _, _, _ => none
  | k + 1, x0, x1, x5, x8, x9, x323000, x323001, x323002, x323003, x323004 => if x9 < (x1.length : Int) then (remontoirlaw18_PortOrders.j1 k x0 x1 x5 x8 x9 (decide (x9 < 60)) x323000 x323001 x323002 x323003 x323004) else (remontoirlaw18_PortOrders.j1 k x0 x1 x5 x8 x9 false x323000 x323001 x323002 x323003 x323004)
def remontoirlaw18_PortOrders.j1 : Nat → Int → List Int → List (S76) → Int → Int → Bool → Int → Int → Int → List Int → List Int → Option (Bool)
  | 0, _, _, _, _, _, _, _, _, _, _, _ => none
  | k + 1, x0, x1, x5, x8, x9, x40, x323000, x323001, x323002, x323003, x323004 => if x40 = true then (if 0 ≤ x9 then (if x9 < (x1.length : Int) then (if (rd x1 x9) = 0 then ((port_Send.f k x5 1 0 x9).bind fun bt332 => (if ((bt332.2 == 0) != (decide ((x323003.length : Int) < x0))) = true then (some false) else (if bt332.2 = 0 then ((some (([] : List Int) : List Int)).bind fun y336 => (if y336.length + x323003.length < 17592186044416 then ((some (y336 ++ x323003 : List Int)).bind fun y339 => (if y339.length < 17592186044416 then (remontoirlaw18_PortOrders.l0 k x0 x1 bt332.1 x8 (wrap64 (x9 + 1)) x323000 x323001 x323002 (y339 ++ [x9]) x323004) else (none))) else (none))) else (remontoirlaw18_PortOrders.l0 k x0 x1 bt332.1 x8 (wrap64 (x9 + 1)) x323000 x323001 x323002 x323003 x323004)))) else (if (rd x1 x9) = 1 then ((port_Read.f k x5 0 0).bind fun bt346 => (if ((bt346.2.2 == 0) != (decide ((x323004.length : Int) > 0))) = true then (remontoirlaw18_PortOrders.j2 k x0 x1 x8 x9 bt346.1 bt346.2.1 bt346.2.2 true x323000 x323001 x323002 x323003 x323004) else (if bt346.2.2 = 0 then (if 0 < (x323004.length : Int) then (if bt346.1 = (rd x323004 0) then (remontoirlaw18_PortOrders.j2 k x0 x1 x8 x9 bt346.1 bt346.2.1 bt346.2.2 (decide (bt346.1 ≤ x8)) x323000 x323001 x323002 x323003 x323004) else (remontoirlaw18_PortOrders.j2 k x0 x1 x8 x9 bt346.1 bt346.2.1 bt346.2.2 true x323000 x323001 x323002 x323003 x323004)) else (none)) else (remontoirlaw18_PortOrders.j2 k x0 x1 x8 x9 bt346.1 bt346.2.1 bt346.2.2 false x323000 x323001 x323002 x323003 x323004)))) else ((port_Deliver.f k x5).bind fun t357 => ((remontoirref18_Deliver.f x323000 x323001 x323002 x323003 x323004).bind fun bt360 => (remontoirlaw18_PortOrders.l0 k x0 x1 t357 x8 (wrap64 (x9 + 1)) bt360.1 bt360.2.1 bt360.2.2.1 bt360.2.2.2.1 bt360.2.2.2.2))))) else (none)) else (none)) else ((remontoirlaw18_As.f k x5).bind fun t323 => ((remontoirlaw18_Same.f k t323 (([(⟨(⟨x323000, x323001, x323002⟩ : S51), x323003, x323004⟩ : S63)] : List (S63)))).bind fun t329 => (if t329 = true then ((remontoirlaw18_knows.f k).bind fun t330 => (some t330)) else (some false))))
def remontoirlaw18_PortOrders.j2 : Nat → Int → List Int → Int → Int → Int → List (S76) → Int → Bool → Int → Int → Int → List Int → List Int → Option (Bool)
  | 0, _, _, _, _, _, _, _, _, _, _, _, _, _ => none
  | k + 1, x0, x1, x8, x9, x12, x13, x14, x107, x323000, x323001, x323002, x323003, x323004 => if x107 = true then (some false) else (if x14 = 0 then (if 1 ≤ (x323004.length : Int) then (remontoirlaw18_PortOrders.l0 k x0 x1 x13 x12 (wrap64 (x9 + 1)) x323000 x323001 x323002 x323003 (x323004.drop 1)) else (none)) else (remontoirlaw18_PortOrders.l0 k x0 x1 x13 x8 (wrap64 (x9 + 1)) x323000 x323001 x323002 x323003 x323004))
end
def remontoirlaw18_PortOrders.f (k : Nat) (a0 : Int) (l1 : List Int) : Option (Bool) := (port_Open.f k (([(⟨1, 0, a0⟩ : S51)] : List (S51)))).bind fun bt317 => (if bt317.2 = 0 then (remontoirlaw18_PortOrders.l0 k a0 l1 bt317.1 (-1) 0 1 0 a0 ([] : List Int) ([] : List Int)) else (if (bt317.1.length : Int) = 0 then ((remontoirlaw18_knows.f k).bind fun t321 => (some t321)) else (some false)))
theorem remontoirlaw18_PortOrders.mono_l : ∀ k, (∀ y0 y1 y2 y3 y4 y5 y6 y7 y8 y9, LeO (remontoirlaw18_PortOrders.l0 k y0 y1 y2 y3 y4 y5 y6 y7 y8 y9) (remontoirlaw18_PortOrders.l0 (k + 1) y0 y1 y2 y3 y4 y5 y6 y7 y8 y9)) ∧ (∀ y0 y1 y2 y3 y4 y5 y6 y7 y8 y9 y10, LeO (remontoirlaw18_PortOrders.j1 k y0 y1 y2 y3 y4 y5 y6 y7 y8 y9 y10) (remontoirlaw18_PortOrders.j1 (k + 1) y0 y1 y2 y3 y4 y5 y6 y7 y8 y9 y10)) ∧ (∀ y0 y1 y2 y3 y4 y5 y6 y7 y8 y9 y10 y11 y12, LeO (remontoirlaw18_PortOrders.j2 k y0 y1 y2 y3 y4 y5 y6 y7 y8 y9 y10 y11 y12) (remontoirlaw18_PortOrders.j2 (k + 1) y0 y1 y2 y3 y4 y5 y6 y7 y8 y9 y10 y11 y12))
  | 0 => ⟨fun _ _ _ _ _ _ _ _ _ _ r h => by simp [remontoirlaw18_PortOrders.l0] at h, fun _ _ _ _ _ _ _ _ _ _ _ r h => by simp [remontoirlaw18_PortOrders.j1] at h, fun _ _ _ _ _ _ _ _ _ _ _ _ _ r h => by simp [remontoirlaw18_PortOrders.j2] at h⟩
  | k + 1 => by
    obtain ⟨ih0, ih1, ih2⟩ := remontoirlaw18_PortOrders.mono_l k
    refine ⟨?_, ?_, ?_⟩
    · intro y0 y1 y2 y3 y4 y5 y6 y7 y8 y9
      unfold remontoirlaw18_PortOrders.l0
      repeat' first
      | (with_reducible exact ih0 _ _ _ _ _ _ _ _ _ _)
      | (with_reducible exact ih1 _ _ _ _ _ _ _ _ _ _ _)
      | (with_reducible exact ih2 _ _ _ _ _ _ _ _ _ _ _ _ _)
      | (with_reducible exact port_Deliver.mono _ _)
      | (with_reducible exact port_Open.mono _ _)
      | (with_reducible exact port_Read.mono _ _ _ _)
      | (with_reducible exact port_Send.mono _ _ _ _ _)
      | (with_reducible exact remontoirlaw18_As.mono _ _)
      | (with_reducible exact remontoirlaw18_Same.mono _ _ _)
      | (with_reducible exact remontoirlaw18_knows.mono _)
      | (with_reducible exact LeO.refl _)
      | (with_reducible exact LeO.none _)
      | (with_reducible refine LeO.ite ?_ ?_)
      | (with_reducible refine LeO.bind ?_ (fun _ => ?_))
      | exact ih0 _ _ _ _ _ _ _ _ _ _
      | exact ih1 _ _ _ _ _ _ _ _ _ _ _
      | exact ih2 _ _ _ _ _ _ _ _ _ _ _ _ _
      | exact port_Deliver.mono _ _
      | exact port_Open.mono _ _
      | exact port_Read.mono _ _ _ _
      | exact port_Send.mono _ _ _ _ _
      | exact remontoirlaw18_As.mono _ _
      | exact remontoirlaw18_Same.mono _ _ _
      | exact remontoirlaw18_knows.mono _
      | exact LeO.none _
      | refine LeO.ite ?_ ?_
      | refine LeO.bind ?_ (fun _ => ?_)
    · intro y0 y1 y2 y3 y4 y5 y6 y7 y8 y9 y10
      unfold remontoirlaw18_PortOrders.j1
      repeat' first
      | (with_reducible exact ih0 _ _ _ _ _ _ _ _ _ _)
      | (with_reducible exact ih1 _ _ _ _ _ _ _ _ _ _ _)
      | (with_reducible exact ih2 _ _ _ _ _ _ _ _ _ _ _ _ _)
      | (with_reducible exact port_Deliver.mono _ _)
      | (with_reducible exact port_Open.mono _ _)
      | (with_reducible exact port_Read.mono _ _ _ _)
      | (with_reducible exact port_Send.mono _ _ _ _ _)
      | (with_reducible exact remontoirlaw18_As.mono _ _)
      | (with_reducible exact remontoirlaw18_Same.mono _ _ _)
      | (with_reducible exact remontoirlaw18_knows.mono _)
      | (with_reducible exact LeO.refl _)
      | (with_reducible exact LeO.none _)
      | (with_reducible refine LeO.ite ?_ ?_)
      | (with_reducible refine LeO.bind ?_ (fun _ => ?_))
      | exact ih0 _ _ _ _ _ _ _ _ _ _
      | exact ih1 _ _ _ _ _ _ _ _ _ _ _
      | exact ih2 _ _ _ _ _ _ _ _ _ _ _ _ _
      | exact port_Deliver.mono _ _
      | exact port_Open.mono _ _
      | exact port_Read.mono _ _ _ _
      | exact port_Send.mono _ _ _ _ _
      | exact remontoirlaw18_As.mono _ _
      | exact remontoirlaw18_Same.mono _ _ _
      | exact remontoirlaw18_knows.mono _
      | exact LeO.none _
      | refine LeO.ite ?_ ?_
      | refine LeO.bind ?_ (fun _ => ?_)
    · intro y0 y1 y2 y3 y4 y5 y6 y7 y8 y9 y10 y11 y12
      unfold remontoirlaw18_PortOrders.j2
      repeat' first
      | (with_reducible exact ih0 _ _ _ _ _ _ _ _ _ _)
      | (with_reducible exact ih1 _ _ _ _ _ _ _ _ _ _ _)
      | (with_reducible exact ih2 _ _ _ _ _ _ _ _ _ _ _ _ _)
      | (with_reducible exact port_Deliver.mono _ _)
      | (with_reducible exact port_Open.mono _ _)
      | (with_reducible exact port_Read.mono _ _ _ _)
      | (with_reducible exact port_Send.mono _ _ _ _ _)
      | (with_reducible exact remontoirlaw18_As.mono _ _)
      | (with_reducible exact remontoirlaw18_Same.mono _ _ _)
      | (with_reducible exact remontoirlaw18_knows.mono _)
      | (with_reducible exact LeO.refl _)
      | (with_reducible exact LeO.none _)
      | (with_reducible refine LeO.ite ?_ ?_)
      | (with_reducible refine LeO.bind ?_ (fun _ => ?_))
      | exact ih0 _ _ _ _ _ _ _ _ _ _
      | exact ih1 _ _ _ _ _ _ _ _ _ _ _
      | exact ih2 _ _ _ _ _ _ _ _ _ _ _ _ _
      | exact port_Deliver.mono _ _
      | exact port_Open.mono _ _
      | exact port_Read.mono _ _ _ _
      | exact port_Send.mono _ _ _ _ _
      | exact remontoirlaw18_As.mono _ _
      | exact remontoirlaw18_Same.mono _ _ _
      | exact remontoirlaw18_knows.mono _
      | exact LeO.none _
      | refine LeO.ite ?_ ?_
      | refine LeO.bind ?_ (fun _ => ?_)
theorem remontoirlaw18_PortOrders.mono : ∀ a0 a1 k, LeO (remontoirlaw18_PortOrders.f k a0 a1) (remontoirlaw18_PortOrders.f (k + 1) a0 a1) := by
  intro a0 a1 k
  obtain ⟨ih0, ih1, ih2⟩ := remontoirlaw18_PortOrders.mono_l k
  unfold remontoirlaw18_PortOrders.f
  repeat' first
      | (with_reducible exact ih0 _ _ _ _ _ _ _ _ _ _)
      | (with_reducible exact ih1 _ _ _ _ _ _ _ _ _ _ _)
      | (with_reducible exact ih2 _ _ _ _ _ _ _ _ _ _ _ _ _)
      | (with_reducible exact port_Deliver.mono _ _)
      | (with_reducible exact port_Open.mono _ _)
      | (with_reducible exact port_Read.mono _ _ _ _)
      | (with_reducible exact port_Send.mono _ _ _ _ _)
      | (with_reducible exact remontoirlaw18_As.mono _ _)
      | (with_reducible exact remontoirlaw18_Same.mono _ _ _)
      | (with_reducible exact remontoirlaw18_knows.mono _)
      | (with_reducible exact LeO.refl _)
      | (with_reducible exact LeO.none _)
      | (with_reducible refine LeO.ite ?_ ?_)
      | (with_reducible refine LeO.bind ?_ (fun _ => ?_))
      | exact ih0 _ _ _ _ _ _ _ _ _ _
      | exact ih1 _ _ _ _ _ _ _ _ _ _ _
      | exact ih2 _ _ _ _ _ _ _ _ _ _ _ _ _
      | exact port_Deliver.mono _ _
      | exact port_Open.mono _ _
      | exact port_Read.mono _ _ _ _
      | exact port_Send.mono _ _ _ _ _
      | exact remontoirlaw18_As.mono _ _
      | exact remontoirlaw18_Same.mono _ _ _
      | exact remontoirlaw18_knows.mono _
      | exact LeO.none _
      | refine LeO.ite ?_ ?_
      | refine LeO.bind ?_ (fun _ => ?_)
def remontoirlaw18_PortOrders.T26 : Bool × List (List Nat × List Nat) := (true, [([], []), ([0], [0]), ([], []), ([2], [2]), ([1, 3, 1], [1, 3]), ([4, 4], [4]), ([5, 5], [5]), ([5, 6], [5, 6]), ([7, 6, 0, 1, 2, 3, 4, 5, 6, 7], [7])])
def remontoirlaw18_PortOrders.B26 : List Nat := [0, 1, 0, 4, 15, 31, 63, 127, 255]
theorem remontoirlaw18_PortOrders.tab26 : rtab .any (opsOf Try.f11 26) = remontoirlaw18_PortOrders.T26 := by kernel_rfl
theorem remontoirlaw18_PortOrders.bits26 : waitsOk remontoirlaw18_PortOrders.T26.2 remontoirlaw18_PortOrders.B26 = true := by kernel_rfl
set_option maxHeartbeats 8000000 in
set_option maxRecDepth 100000 in
theorem remontoirlaw18_PortOrders.calls (k : Nat) (a0 : Int) (A1 : Option Addr) (c1 : Nat) (l1 : List Int) (w : World) (hr1 : Kd.C (Kd.int .u8) w A1 l1.length l1) (hc1 : l1.length ≤ c1) (h : remontoirlaw18_PortOrders.f k a0 l1 = some true) :
    Calls Try.prog 11 #[.int .i64 a0, .slice A1 l1.length c1] w fun e w' => e = .returned (.bool true) ∧ Below w.heap.size w w' := by
  have hu51 := Try.underlying51
  have hu63 := Try.underlying63
  have HR1 := Aside0.mk hr1
  have HC1 := Aside0.mk hc1
  clear hr1 hc1
  have HB := Aside0.mk (Below.refl w.heap.size w)
  have H : ((port_Open.f k (([(⟨1, 0, a0⟩ : S51)] : List (S51)))).bind fun bt317 => (if bt317.2 = 0 then (remontoirlaw18_PortOrders.l0 k a0 l1 bt317.1 (-1) 0 1 0 a0 ([] : List Int) ([] : List Int)) else (if (bt317.1.length : Int) = 0 then ((remontoirlaw18_knows.f k).bind fun t321 => (some t321)) else (some false)))) = some true := h
  clear h
  obtain ⟨y314, hy314⟩ : ∃ y_ : List (S51), y_ = (([(⟨1, 0, a0⟩ : S51)] : List (S51))) := ⟨_, rfl⟩
  replace H : ((port_Open.f k y314).bind fun bt317 => (if bt317.2 = 0 then (remontoirlaw18_PortOrders.l0 k a0 l1 bt317.1 (-1) 0 1 0 a0 ([] : List Int) ([] : List Int)) else (if (bt317.1.length : Int) = 0 then ((remontoirlaw18_knows.f k).bind fun t321 => (some t321)) else (some false)))) = some true := by first | (rw [hy314]; with_reducible exact H) | (have H2_ := (Option.bind_some _ _).symm.trans H; rw [hy314]; with_reducible exact H2_) | (have H2_ := (Option.bind_some _ _).symm.trans H; with_reducible exact H2_) | with_reducible exact H | (rw [hy314]; exact H) | exact H
  have Ny314 := Aside0.mk hy314
  clear hy314
  replace H := Option.bind_eq_some_iff.mp H
  obtain ⟨⟨t317, t318⟩, A30, H⟩ := H
  replace H : (if t318 = 0 then (remontoirlaw18_PortOrders.l0 k a0 l1 t317 (-1) 0 1 0 a0 ([] : List Int) ([] : List Int)) else (if (t317.length : Int) = 0 then ((remontoirlaw18_knows.f k).bind fun t321 => (some t321)) else (some false))) = some true := H
  have A3 := Aside0.mk A30
  clear A30
  by_cases c4 : t318 = 0
  · rw [if_pos c4] at H
    have c4b0 : (t318 == 0) = true := beq_iff_eq.mpr c4
    have c4b1 : (t318 != 0) = false := bne_eq_false_iff_eq.mpr c4
    clear c4
    have H' := Aside0.mk H
    clear H
    go_enter Try.func11, Try.ntmps11
    go_wp2_with (first | ((with_reducible refine gate_dst (N := 18) rfl ?_); refine Kd.R_lit k51 _ 51 ?hg (N := 18) ?hd (xs := ([(⟨1, 0, a0⟩ : S51)] : List (S51))) (inner := [.int .i64 1, .int .i64 0, .int .i64 a0]) (ok := fun _ => True) (okp := fun _ => True) ?hr ?hp (fun _ hk => hk) trivial (Below.refl _ _) (Nat.le_refl _) (by simp) ?_; (case hd => rfl); (case hg => rfl); (case hr => first | (go_simp; done) | (go_simp; rfl)); (case hp => exact (Reps.c3 (show Kd.M k51 _ _ _ (⟨1, 0, a0⟩ : S51) [.int .i64 1, .int .i64 0, .int .i64 a0] from (k51_mkM _ _ _ (⟨1, 0, a0⟩ : S51) )) (Reps.none _ _))); intro v315 w5 ho6 hb hg_ hnew_; clear hg_ hnew_; (first | rw [← Ny314.out] at ho6 | (simp only [Int.reduceToNat] at ho6; rw [← Ny314.out] at ho6)); have n0_ := Aside0.mk (Kd.R_lower ho6 (below_size (by repeat (first | (with_reducible first | exact HB.out | apply below_alloc | apply pw_below_drewN | apply below_drew1) | exact HB.out)))); have n1_ := Aside0.mk (below_step (by repeat (first | (with_reducible first | exact HB.out | apply below_alloc | apply pw_below_drewN | apply below_drew1) | exact HB.out)) hb); clear HB; have HO316 := n0_; have HB := n1_; clear n0_ n1_; clear hb ho6; obtain ⟨Ao7, co7, eo7⟩ := Kd.R_slice HO316.out; subst eo7) | ((with_reducible refine gate_callee (f := 26) rfl ?_); refine goesL_ (some 19) rfl rfl Try.func26 (by kernel_rfl) rfl #[.slice Ao7 y314.length co7] rfl (by (try simp only [List.map_toArray, List.map_cons, List.map_nil]); first | done | rfl | (simp only [List.length_drop, List.length_take]; rfl)) ?_; (with_reducible refine (port_Open.calls k _ _ y314 t317 t318 _ ?side1 ?side2 A3.out).mono ?_); (case side1 => repeat (first | exact (Kd.R_reads' HO316.out).2.2 | (with_reducible refine Kd.C_alloc ?_ _) | (with_reducible refine Kd.C_drewN ?_ _) | (with_reducible refine Kd.C_drew ?_))); (case side2 => exact (Kd.R_reads' HO316.out).2.1); rintro e w8 ⟨v319, rfl, ho0, hb⟩; refine ⟨_, rfl, ?_⟩; have n0_ := Aside0.mk (Kd.R_below (by (with_reducible repeat (first | apply Kd.R_alloc | apply Kd.R_drewN | apply Kd.R_drew)); exact HO316.out) hb); have n1_ := Aside0.mk (Kd.N_lower (Kd.N_mono (ok' := fun k_ => some k_ ≠ (.slice Ao7 y314.length co7 : Value).ownBlock) (Kd.S_N (Kd.S_bound ho0)) (fun k_ hk_ => (Kd.fresh' (Kd.R_lt (by (with_reducible repeat (first | apply Kd.R_alloc | apply Kd.R_drewN | apply Kd.R_drew)); exact HO316.out)) k_ hk_.2.1))) (below_size (by repeat (first | (with_reducible first | exact HB.out | apply below_alloc | apply pw_below_drewN | apply below_drew1) | exact HB.out)))); have n2_ := Aside0.mk (below_step (by repeat (first | (with_reducible first | exact HB.out | apply below_alloc | apply pw_below_drewN | apply below_drew1) | exact HB.out)) hb); clear HO316; clear HB; have HO316 := n0_; have HO320 := n1_; have HB := n2_; clear n0_ n1_ n2_; (try clear hb); (try clear hb2); (try clear hk); (try clear hi); (try clear ho0)) | ((with_reducible refine gate_dst (N := 7) rfl ?_); refine box_event ?hg (N := 7) ?hd (cs := #[.int .i64 0, .int .i64 0, .int .i64 0, .slice none 0 0, .slice none 0 0]) (t := 63) ?hr ?_; (case hd => rfl); (case hg => rfl); (case hr => first | (go_simp; done) | (go_simp; rfl)); intro gb322 hg w9 hbox hb; have n0_ := Aside0.mk (Kd.R_below (by (with_reducible repeat (first | apply Kd.R_alloc | apply Kd.R_drewN | apply Kd.R_drew)); exact HO316.out) hb); have n1_ := Aside0.mk (Kd.N_below (Kd.N_elderB (by (with_reducible repeat (first | apply Kd.N_alloc | apply Kd.N_drewN | apply Kd.N_drew)); exact HO320.out) gb322 (Nat.le_of_eq hg.symm)) hb); have n2_ := Aside0.mk (below_step (by repeat (first | (with_reducible first | exact HB.out | apply below_alloc | apply pw_below_drewN | apply below_drew1) | exact HB.out)) hb); have n3_ := Aside0.mk (hbox); have n4_ := Aside0.mk ((by rw [hg]; exact (below_size (by repeat (first | (with_reducible first | exact HB.out | apply below_alloc | apply pw_below_drewN | apply below_drew1) | exact HB.out))) : w.heap.size ≤ gb322)); have n5_ := Aside0.mk ((by rw [hg]; exact (below_size (by repeat (first | (with_reducible first | exact HB.out | apply below_alloc | apply pw_below_drewN | apply below_drew1) | exact HB.out))) : w.heap.size ≤ gb322)); clear HO316; clear HO320; clear HB; have HO316 := n0_; have HO320 := n1_; have HB := n2_; have BK322 := n3_; have GW322 := n4_; have GE322 := n5_; clear n0_ n1_ n2_ n3_ n4_ n5_; clear hb hbox hg; have hcz10_0 : w9.cell? ⟨gb322, 0, none⟩ = some (.int .i64 0) := (blk_cell BK322.out 0).trans rfl; have hcz10_1 : w9.cell? ⟨gb322, 1, none⟩ = some (.int .i64 0) := (blk_cell BK322.out 1).trans rfl; have hcz10_2 : w9.cell? ⟨gb322, 2, none⟩ = some (.int .i64 0) := (blk_cell BK322.out 2).trans rfl; have hcz10_3 : w9.cell? ⟨gb322, 3, none⟩ = some (.slice none 0 0) := (blk_cell BK322.out 3).trans rfl; have hcz10_4 : w9.cell? ⟨gb322, 4, none⟩ = some (.slice none 0 0) := (blk_cell BK322.out 4).trans rfl; have hfz10_0 := blk_frozen BK322.out 0; have hfz10_1 := blk_frozen BK322.out 1; have hfz10_2 := blk_frozen BK322.out 2; have hfz10_3 := blk_frozen BK322.out 3; have hfz10_4 := blk_frozen BK322.out 4))
    go_loopg [5, 8, 9] k (fun kq v5 v8 v9 w' => ∃ (x5_1 : List (S76)) (x8_1 : Int) (x9_1 : Int) (x323000_1 : Int) (x323001_1 : Int) (x323002_1 : Int) (x323003_1 : List Int) (x323004_1 : List Int) (u323003 : Value) (u323004 : Value), v8 = .int .i64 x8_1 ∧ v9 = .int .i64 x9_1 ∧ Aside0 (remontoirlaw18_PortOrders.l0 kq a0 l1 x5_1 x8_1 x9_1 x323000_1 x323001_1 x323002_1 x323003_1 x323004_1 = some true) ∧ Aside0 (kq ≤ k) ∧ Aside0 (Kd.V k76 76 w' w.heap.size (fun k_ => some k_ ≠ (u323003 : Value).ownBlock ∧ k_ ≠ gb322) v5 x5_1) ∧ Aside0 (Kd.R (Kd.int .i64) 3 w' w.heap.size (fun _ => True) u323003 x323003_1) ∧ Aside0 (Kd.V (Kd.int .i64) 3 w' w.heap.size (fun k_ => some k_ ≠ (u323003 : Value).ownBlock ∧ k_ ≠ gb322) u323004 x323004_1) ∧ Aside0 (w'.heap[gb322]? = some (.cells #[.int .i64 x323000_1, .int .i64 x323001_1, .int .i64 x323002_1, u323003, u323004] 63 (0, 0))) ∧ Aside0 (Below w.heap.size w w'))
    case atStart => exact ⟨(t317), ((-1)), (0), (1), (0), (a0), (([] : List Int)), (([] : List Int)), (.slice none 0 0), (.slice none 0 0), (by first | rfl | (simp; done) | (simp [*]; done)), (by first | rfl | (simp; done) | (simp [*]; done)), H', ⟨Nat.le_refl _⟩, ⟨Kd.N_V (by (with_reducible repeat (first | apply Kd.N_alloc | apply Kd.N_drewN | apply Kd.N_drew)); exact Kd.N_mono (Kd.N_far (p := ⟨gb322, 4, none⟩) (Kd.N_far (p := ⟨gb322, 3, none⟩) (Kd.N_far (p := ⟨gb322, 2, none⟩) (Kd.N_far (p := ⟨gb322, 1, none⟩) (Kd.N_far (p := ⟨gb322, 0, none⟩) (Kd.N_mono HO320.out (fun k_ hk => (⟨hk, hk.2⟩ : _ ∧ k_ ≠ gb322))) (fun _ hk => hk.2) (.int .i64 1)) (fun _ hk => hk.2) (.int .i64 0)) (fun _ hk => hk.2) (.int .i64 a0)) (fun _ hk => hk.2) (.slice none 0 0)) (fun _ hk => hk.2) (.slice none 0 0)) (fun _ hk => ⟨(by simp [Value.ownBlock]), hk.1.2⟩))⟩, ⟨by first | exact Kd.R_nil _ _ _ _ _ | exact Kd.N_nil _ _ _ _ _ | exact Kd.V_nil _ _ _ _ _ | exact Kd.Q_nil _ _ _ _ _ | exact Kd.S_nil _ _ _ _ _⟩, ⟨Kd.V_nil _ _ _ _ _⟩, ⟨by (with_reducible repeat (first | refine blk_drewN ?_ _ | refine blk_drew ?_ | refine blk_alloc ?_ _)); refine blk_put (cs := #[.int .i64 1, .int .i64 0, .int .i64 a0, .slice none 0 0, .slice none 0 0]) ?_ 4 _ rfl; (with_reducible repeat (first | refine blk_drewN ?_ _ | refine blk_drew ?_ | refine blk_alloc ?_ _)); refine blk_put (cs := #[.int .i64 1, .int .i64 0, .int .i64 a0, .slice none 0 0, .slice none 0 0]) ?_ 3 _ rfl; (with_reducible repeat (first | refine blk_drewN ?_ _ | refine blk_drew ?_ | refine blk_alloc ?_ _)); refine blk_put (cs := #[.int .i64 1, .int .i64 0, .int .i64 0, .slice none 0 0, .slice none 0 0]) ?_ 2 _ rfl; (with_reducible repeat (first | refine blk_drewN ?_ _ | refine blk_drew ?_ | refine blk_alloc ?_ _)); refine blk_put (cs := #[.int .i64 1, .int .i64 0, .int .i64 0, .slice none 0 0, .slice none 0 0]) ?_ 1 _ rfl; (with_reducible repeat (first | refine blk_drewN ?_ _ | refine blk_drew ?_ | refine blk_alloc ?_ _)); refine blk_put (cs := #[.int .i64 0, .int .i64 0, .int .i64 0, .slice none 0 0, .slice none 0 0]) ?_ 0 _ rfl; (with_reducible repeat (first | refine blk_drewN ?_ _ | refine blk_drew ?_ | refine blk_alloc ?_ _)); exact BK322.out⟩, ⟨by repeat (first | (with_reducible first | exact HB.out | apply below_alloc | apply pw_below_drewN | apply below_drew1 | refine below_set ?_ GE322.out) | exact HB.out)⟩⟩
    case round =>
      clear H'
      try clear c1
      try clear c2
      try clear p2
      try clear c3
      try clear c4
      try clear c4b0
      try clear c4b1
      try clear hcz10_0
      try clear hcz10_1
      try clear hcz10_2
      try clear hcz10_3
      try clear hcz10_4
      try clear hfz10_0
      try clear hfz10_1
      try clear hfz10_2
      try clear hfz10_3
      try clear hfz10_4
      obtain ⟨x5_1, x8_1, x9_1, x323000_1, x323001_1, x323002_1, x323003_1, x323004_1, u323003, u323004, rfl, rfl, HA, HK1, HO_5, HO_323003, HO_323004, BK322, HB⟩ := hrel
      cases gk with
      | zero => exact absurd HA.out (by simp [remontoirlaw18_PortOrders.l0])
      | succ k1 =>
        have H := HA.out
        clear HA
        simp only [remontoirlaw18_PortOrders.l0] at H
        have HC11 := Aside0.mk H
        clear H
        go_upto_region 7 with (fail)
        go_cut [40] (fun v40 wc => ∃ (kq : Nat) (x40_10 : Bool), v40 = .bool x40_10 ∧ Aside0 (remontoirlaw18_PortOrders.j1 kq a0 l1 x5_1 x8_1 x9_1 x40_10 x323000_1 x323001_1 x323002_1 x323003_1 x323004_1 = some true) ∧ Aside0 (kq ≤ k1) ∧ Aside0 (Kd.V k76 76 wc w.heap.size (fun k_ => some k_ ≠ (u323003 : Value).ownBlock ∧ k_ ≠ gb322) u5 x5_1) ∧ Aside0 (Kd.R (Kd.int .i64) 3 wc w.heap.size (fun _ => True) u323003 x323003_1) ∧ Aside0 (Kd.V (Kd.int .i64) 3 wc w.heap.size (fun k_ => some k_ ≠ (u323003 : Value).ownBlock ∧ k_ ≠ gb322) u323004 x323004_1) ∧ Aside0 (wc.heap[gb322]? = some (.cells #[.int .i64 x323000_1, .int .i64 x323001_1, .int .i64 x323002_1, u323003, u323004] 63 (0, 0))) ∧ Aside0 (Below w.heap.size w wc))
        case first =>
          have H := HC11.out
          clear HC11
          by_cases c12 : x9_1 < (l1.length : Int)
          · rw [if_pos c12] at H
            have c12b0 : decide (x9_1 < (l1.length : Int)) = true := decide_eq_true c12
            clear c12
            (first | rw [c12b0] | (simp only [i64_w, i32_w]; rw [c12b0]) | rw [c12b1] | (simp only [i64_w, i32_w]; rw [c12b1]) | skip)
            have H' := Aside0.mk H
            clear H
            go_wp2
            go_meet
            case rel => exact ⟨_, (decide (x9_1 < 60)), (by first | rfl | (simp; done) | (simp [*]; done)), H', ⟨by have := HK1.out; first | omega | exact Nat.le_refl _⟩, ⟨by (with_reducible repeat (first | apply Kd.V_alloc | apply Kd.V_drewN | apply Kd.V_drew)); exact HO_5.out⟩, ⟨by (with_reducible repeat (first | apply Kd.R_alloc | apply Kd.R_drewN | apply Kd.R_drew)); exact HO_323003.out⟩, ⟨by (with_reducible repeat (first | apply Kd.V_alloc | apply Kd.V_drewN | apply Kd.V_drew)); exact HO_323004.out⟩, ⟨by (with_reducible repeat (first | refine blk_drewN ?_ _ | refine blk_drew ?_ | refine blk_alloc ?_ _)); exact BK322.out⟩, ⟨by repeat (first | (with_reducible first | exact HB.out | apply below_alloc | apply pw_below_drewN | apply below_drew1 | refine below_set ?_ GE322.out) | exact HB.out)⟩⟩
          · rw [if_neg c12] at H
            have c12b0 : decide (x9_1 < (l1.length : Int)) = false := decide_eq_false c12
            clear c12
            (first | rw [c12b0] | (simp only [i64_w, i32_w]; rw [c12b0]) | rw [c12b1] | (simp only [i64_w, i32_w]; rw [c12b1]) | skip)
            have H' := Aside0.mk H
            clear H
            go_wp2
            go_meet
            case rel => exact ⟨_, (false), (by first | rfl | (simp; done) | (simp [*]; done)), H', ⟨by have := HK1.out; first | omega | exact Nat.le_refl _⟩, ⟨by (with_reducible repeat (first | apply Kd.V_alloc | apply Kd.V_drewN | apply Kd.V_drew)); exact HO_5.out⟩, ⟨by (with_reducible repeat (first | apply Kd.R_alloc | apply Kd.R_drewN | apply Kd.R_drew)); exact HO_323003.out⟩, ⟨by (with_reducible repeat (first | apply Kd.V_alloc | apply Kd.V_drewN | apply Kd.V_drew)); exact HO_323004.out⟩, ⟨by (with_reducible repeat (first | refine blk_drewN ?_ _ | refine blk_drew ?_ | refine blk_alloc ?_ _)); exact BK322.out⟩, ⟨by repeat (first | (with_reducible first | exact HB.out | apply below_alloc | apply pw_below_drewN | apply below_drew1 | refine below_set ?_ GE322.out) | exact HB.out)⟩⟩
        case rest =>
          clear HC11
          try clear c1
          try clear c2
          try clear p2
          try clear c3
          try clear c4
          try clear c4b0
          try clear c4b1
          try clear c11
          try clear c12
          try clear c12b0
          try clear hcz10_0
          try clear hcz10_1
          try clear hcz10_2
          try clear hcz10_3
          try clear hcz10_4
          try clear hfz10_0
          try clear hfz10_1
          try clear hfz10_2
          try clear hfz10_3
          try clear hfz10_4
          try clear p2
          obtain ⟨kq, x40_10, rfl, HA, HJ10, HO_5, HO_323003, HO_323004, BK322, HB⟩ := hcut
          cases kq with
          | zero => exact absurd HA.out (by simp [remontoirlaw18_PortOrders.j1])
          | succ kj10 =>
            have H := HA.out
            clear HA
            simp only [remontoirlaw18_PortOrders.j1] at H
            by_cases c13 : x40_10 = true
            · subst c13
              have H1 : (if 0 ≤ x9_1 then (if x9_1 < (l1.length : Int) then (if (rd l1 x9_1) = 0 then ((port_Send.f kj10 x5_1 1 0 x9_1).bind fun bt332 => (if ((bt332.2 == 0) != (decide ((x323003_1.length : Int) < a0))) = true then (some false) else (if bt332.2 = 0 then ((some (([] : List Int) : List Int)).bind fun y336 => (if y336.length + x323003_1.length < 17592186044416 then ((some (y336 ++ x323003_1 : List Int)).bind fun y339 => (if y339.length < 17592186044416 then (remontoirlaw18_PortOrders.l0 kj10 a0 l1 bt332.1 x8_1 (wrap64 (x9_1 + 1)) x323000_1 x323001_1 x323002_1 (y339 ++ [x9_1]) x323004_1) else (none))) else (none))) else (remontoirlaw18_PortOrders.l0 kj10 a0 l1 bt332.1 x8_1 (wrap64 (x9_1 + 1)) x323000_1 x323001_1 x323002_1 x323003_1 x323004_1)))) else (if (rd l1 x9_1) = 1 then ((port_Read.f kj10 x5_1 0 0).bind fun bt346 => (if ((bt346.2.2 == 0) != (decide ((x323004_1.length : Int) > 0))) = true then (remontoirlaw18_PortOrders.j2 kj10 a0 l1 x8_1 x9_1 bt346.1 bt346.2.1 bt346.2.2 true x323000_1 x323001_1 x323002_1 x323003_1 x323004_1) else (if bt346.2.2 = 0 then (if 0 < (x323004_1.length : Int) then (if bt346.1 = (rd x323004_1 0) then (remontoirlaw18_PortOrders.j2 kj10 a0 l1 x8_1 x9_1 bt346.1 bt346.2.1 bt346.2.2 (decide (bt346.1 ≤ x8_1)) x323000_1 x323001_1 x323002_1 x323003_1 x323004_1) else (remontoirlaw18_PortOrders.j2 kj10 a0 l1 x8_1 x9_1 bt346.1 bt346.2.1 bt346.2.2 true x323000_1 x323001_1 x323002_1 x323003_1 x323004_1)) else (none)) else (remontoirlaw18_PortOrders.j2 kj10 a0 l1 x8_1 x9_1 bt346.1 bt346.2.1 bt346.2.2 false x323000_1 x323001_1 x323002_1 x323003_1 x323004_1)))) else ((port_Deliver.f kj10 x5_1).bind fun t357 => ((remontoirref18_Deliver.f x323000_1 x323001_1 x323002_1 x323003_1 x323004_1).bind fun bt360 => (remontoirlaw18_PortOrders.l0 kj10 a0 l1 t357 x8_1 (wrap64 (x9_1 + 1)) bt360.1 bt360.2.1 bt360.2.2.1 bt360.2.2.2.1 bt360.2.2.2.2))))) else (none)) else (none)) = some true := by rw [if_pos rfl] at H; exact H
              clear H
              have H := H1
              clear H1
              by_cases c14 : 0 ≤ x9_1
              · rw [if_pos c14] at H
                have c14b0 : decide (0 ≤ x9_1) = true := decide_eq_true c14
                clear c14
                by_cases c15 : x9_1 < (l1.length : Int)
                · rw [if_pos c15] at H
                  have c15b0 : decide (x9_1 < (l1.length : Int)) = true := decide_eq_true c15
                  clear c15
                  by_cases c16 : (rd l1 x9_1) = 0
                  · rw [if_pos c16] at H
                    have c16b0 : ((rd l1 x9_1) == 0) = true := beq_iff_eq.mpr c16
                    have c16b1 : ((rd l1 x9_1) != 0) = false := bne_eq_false_iff_eq.mpr c16
                    clear c16
                    replace H := Option.bind_eq_some_iff.mp H
                    obtain ⟨⟨t332, t335⟩, A170, H⟩ := H
                    replace H : (if ((t335 == 0) != (decide ((x323003_1.length : Int) < a0))) = true then (some false) else (if t335 = 0 then ((some (([] : List Int) : List Int)).bind fun y336 => (if y336.length + x323003_1.length < 17592186044416 then ((some (y336 ++ x323003_1 : List Int)).bind fun y339 => (if y339.length < 17592186044416 then (remontoirlaw18_PortOrders.l0 kj10 a0 l1 t332 x8_1 (wrap64 (x9_1 + 1)) x323000_1 x323001_1 x323002_1 (y339 ++ [x9_1]) x323004_1) else (none))) else (none))) else (remontoirlaw18_PortOrders.l0 kj10 a0 l1 t332 x8_1 (wrap64 (x9_1 + 1)) x323000_1 x323001_1 x323002_1 x323003_1 x323004_1))) = some true := H
                    have A17 := Aside0.mk A170
                    clear A170
                    by_cases c18 : ((t335 == 0) != (decide ((x323003_1.length : Int) < a0))) = true
                    · rw [if_pos c18] at H
                      have c18b0 : ((t335 == 0) != (decide ((x323003_1.length : Int) < a0))) = true := c18
                      (try (have c18b1 : decide ((t335 == 0) = (decide ((x323003_1.length : Int) < a0))) = false := by simpa using c18))
                      (try (have c18b2 : ((t335 == 0) == (decide ((x323003_1.length : Int) < a0))) = false := by simpa using c18))
                      (try (have c18b3 : ¬ ((t335 == 0) = (decide ((x323003_1.length : Int) < a0))) := by simpa using c18))
                      clear c18
                      exact absurd H (by simp)
                    · rw [if_neg c18] at H
                      have c18b0 : ((t335 == 0) != (decide ((x323003_1.length : Int) < a0))) = false := by simpa using c18
                      (try (have c18b1 : decide ((t335 == 0) = (decide ((x323003_1.length : Int) < a0))) = true := by simpa using c18))
                      (try (have c18b2 : ((t335 == 0) == (decide ((x323003_1.length : Int) < a0))) = true := by simpa using c18))
                      clear c18
                      by_cases c19 : t335 = 0
                      · rw [if_pos c19] at H
                        have c19b0 : (t335 == 0) = true := beq_iff_eq.mpr c19
                        have c18b0q : (decide ((x323003_1.length : Int) < a0)) = true := by have h_ := c18b0; rw [c19b0] at h_; revert h_; generalize (decide ((x323003_1.length : Int) < a0)) = q_; cases q_ <;> decide
                        have c19b1 : (t335 != 0) = false := bne_eq_false_iff_eq.mpr c19
                        clear c19
                        obtain ⟨y336, hy336⟩ : ∃ y_ : List Int, y_ = (([] : List Int)) := ⟨_, rfl⟩
                        replace H : (if y336.length + x323003_1.length < 17592186044416 then ((some (y336 ++ x323003_1 : List Int)).bind fun y339 => (if y339.length < 17592186044416 then (remontoirlaw18_PortOrders.l0 kj10 a0 l1 t332 x8_1 (wrap64 (x9_1 + 1)) x323000_1 x323001_1 x323002_1 (y339 ++ [x9_1]) x323004_1) else (none))) else (none)) = some true := by first | (rw [hy336]; with_reducible exact H) | (have H2_ := (Option.bind_some _ _).symm.trans H; rw [hy336]; with_reducible exact H2_) | (have H2_ := (Option.bind_some _ _).symm.trans H; with_reducible exact H2_) | with_reducible exact H | (rw [hy336]; exact H) | exact H
                        have Ny336 := Aside0.mk hy336
                        clear hy336
                        by_cases c20 : y336.length + x323003_1.length < 17592186044416
                        · rw [if_pos c20] at H
                          have LMc20 := Aside0.mk c20
                          clear c20
                          obtain ⟨y339, hy339⟩ : ∃ y_ : List Int, y_ = (y336 ++ x323003_1) := ⟨_, rfl⟩
                          replace H : (if y339.length < 17592186044416 then (remontoirlaw18_PortOrders.l0 kj10 a0 l1 t332 x8_1 (wrap64 (x9_1 + 1)) x323000_1 x323001_1 x323002_1 (y339 ++ [x9_1]) x323004_1) else (none)) = some true := by first | (rw [hy339]; with_reducible exact H) | (have H2_ := (Option.bind_some _ _).symm.trans H; rw [hy339]; with_reducible exact H2_) | (have H2_ := (Option.bind_some _ _).symm.trans H; with_reducible exact H2_) | with_reducible exact H | (rw [hy339]; exact H) | exact H
                          have Ny339 := Aside0.mk hy339
                          clear hy339
                          by_cases c21 : y339.length < 17592186044416
                          · rw [if_pos c21] at H
                            have LMc21 := Aside0.mk c21
                            clear c21
                            obtain ⟨y342, hy342⟩ : ∃ y_ : List Int, y_ = (y339 ++ [x9_1]) := ⟨_, rfl⟩
                            replace H : (remontoirlaw18_PortOrders.l0 kj10 a0 l1 t332 x8_1 (wrap64 (x9_1 + 1)) x323000_1 x323001_1 x323002_1 y342 x323004_1) = some true := by first | (rw [hy342]; with_reducible exact H) | (have H2_ := (Option.bind_some _ _).symm.trans H; rw [hy342]; with_reducible exact H2_) | (have H2_ := (Option.bind_some _ _).symm.trans H; with_reducible exact H2_) | with_reducible exact H | (rw [hy342]; exact H) | exact H
                            have Ny342 := Aside0.mk hy342
                            clear hy342
                            have H' := Aside0.mk H
                            clear H
                            have p331 : 0 ≤ (x9_1 : Int) := of_decide_eq_true (by first | (with_reducible assumption) | assumption)
                            have q331 : x9_1 < (l1.length : Int) := of_decide_eq_true (by first | (with_reducible assumption) | assumption)
                            obtain ⟨ad331, e331, hx331_0⟩ := Kd.at_int HR1.out x9_1 p331 q331
                            cases e331
                            replace hx331_0 := (HB.out.cell (World.block_lt_of_cell? w _ hx331_0)).trans hx331_0
                            replace p331 := eq_true p331
                            replace q331 := eq_true q331
                            obtain ⟨Ao22, co22, eo22⟩ := Kd.V_slice HO_5.out
                            subst eo22
                            go_wp2_with (first | ((with_reducible refine gate_callee (f := 28) rfl ?_); refine goesL_ (some 51) rfl rfl Try.func28 (by kernel_rfl) rfl #[.slice Ao22 x5_1.length co22, .int .i64 1, .int .i64 0, .int .i64 x9_1] rfl (by (try simp only [List.map_toArray, List.map_cons, List.map_nil]); first | done | rfl | (simp only [List.length_drop, List.length_take]; rfl)) ?_; (with_reducible refine (port_Send.calls kj10 (fun k_ => (some k_ ≠ (u323003 : Value).ownBlock ∧ k_ ≠ gb322)) _ _ x5_1 1 0 x9_1 t332 t335 _ ?side1 A17.out).mono ?_); (case side1 => exact HO_5.out); rintro e w23 ⟨v333, rfl, ho0, hb⟩; refine ⟨_, rfl, ?_⟩; have n0_ := Aside0.mk (Kd.V_below (by (with_reducible repeat (first | apply Kd.V_alloc | apply Kd.V_drewN | apply Kd.V_drew)); exact HO_5.out) hb); have n1_ := Aside0.mk (Kd.R_below (by (with_reducible repeat (first | apply Kd.R_alloc | apply Kd.R_drewN | apply Kd.R_drew)); exact HO_323003.out) hb); have n2_ := Aside0.mk (Kd.V_below (by (with_reducible repeat (first | apply Kd.V_alloc | apply Kd.V_drewN | apply Kd.V_drew)); exact HO_323004.out) hb); have n3_ := Aside0.mk (Kd.V_lower (Kd.V_mono (ok' := fun k_ => some k_ ≠ (u323003 : Value).ownBlock ∧ k_ ≠ gb322) ho0 (fun k_ hk_ => ⟨Or.elim hk_ (fun hs_ => hs_.1) (fun hn_ => (Kd.fresh' (Kd.R_lt (by (with_reducible repeat (first | apply Kd.R_alloc | apply Kd.R_drewN | apply Kd.R_drew)); exact HO_323003.out)) k_ hn_)), Or.elim hk_ (fun hs_ => hs_.2) (fun hn_ => (Kd.freshB (g := gb322) (o := .cells #[.int .i64 x323000_1, .int .i64 x323001_1, .int .i64 x323002_1, u323003, u323004] 63 (0, 0)) (by (with_reducible repeat (first | refine blk_drewN ?_ _ | refine blk_drew ?_ | refine blk_alloc ?_ _)); exact BK322.out) k_ hn_))⟩)) (below_size (by repeat (first | (with_reducible first | exact HB.out | apply below_alloc | apply pw_below_drewN | apply below_drew1 | refine below_set ?_ GE322.out) | exact HB.out)))); have n4_ := Aside0.mk (blk_below (g := gb322) (o := .cells #[.int .i64 x323000_1, .int .i64 x323001_1, .int .i64 x323002_1, u323003, u323004] 63 (0, 0)) (by (with_reducible repeat (first | refine blk_drewN ?_ _ | refine blk_drew ?_ | refine blk_alloc ?_ _)); exact BK322.out) hb); have n5_ := Aside0.mk (below_step (by repeat (first | (with_reducible first | exact HB.out | apply below_alloc | apply pw_below_drewN | apply below_drew1 | refine below_set ?_ GE322.out) | exact HB.out)) hb); clear HO_5; clear HO_323003; clear HO_323004; clear BK322; clear HB; have HO_5 := n0_; have HO_323003 := n1_; have HO_323004 := n2_; have HO334 := n3_; have BK322 := n4_; have HB := n5_; clear n0_ n1_ n2_ n3_ n4_ n5_; (try clear hb); (try clear hb2); (try clear hk); (try clear hi); (try clear ho0); have hcz24_0 : w23.cell? ⟨gb322, 0, none⟩ = some (.int .i64 x323000_1) := (blk_cell BK322.out 0).trans rfl; have hcz24_1 : w23.cell? ⟨gb322, 1, none⟩ = some (.int .i64 x323001_1) := (blk_cell BK322.out 1).trans rfl; have hcz24_2 : w23.cell? ⟨gb322, 2, none⟩ = some (.int .i64 x323002_1) := (blk_cell BK322.out 2).trans rfl; have hcz24_3 : w23.cell? ⟨gb322, 3, none⟩ = some (u323003) := (blk_cell BK322.out 3).trans rfl; have hcz24_4 : w23.cell? ⟨gb322, 4, none⟩ = some (u323004) := (blk_cell BK322.out 4).trans rfl; have hfz24_0 := blk_frozen BK322.out 0; have hfz24_1 := blk_frozen BK322.out 1; have hfz24_2 := blk_frozen BK322.out 2; have hfz24_3 := blk_frozen BK322.out 3; have hfz24_4 := blk_frozen BK322.out 4; obtain ⟨Ao25, co25, eo25⟩ := Kd.R_slice HO_323003.out; subst eo25) | ((with_reducible refine gate_dst (N := 64) rfl ?_); refine Kd.R_lit (Kd.int .i64) _ 3 ?hg (N := 64) ?hd (xs := ([] : List Int)) (inner := []) (ok := fun _ => True) (okp := fun _ => True) ?hr ?hp (fun _ hk => hk) trivial (Below.refl _ _) (Nat.le_refl _) (by simp) ?_; (case hd => rfl); (case hg => rfl); (case hr => first | (go_simp; done) | (go_simp; rfl)); (case hp => exact (Reps.none _ _)); intro v337 w26 ho27 hb hg_ hnew_; clear hg_ hnew_; (first | rw [← Ny336.out] at ho27 | (simp only [Int.reduceToNat] at ho27; rw [← Ny336.out] at ho27)); have n0_ := Aside0.mk (Kd.V_elder' (by (with_reducible repeat (first | apply Kd.V_alloc | apply Kd.V_drewN | apply Kd.V_drew)); exact HO_5.out) (Kd.R_base ho27) hb); have n1_ := Aside0.mk (Kd.R_elder' (by (with_reducible repeat (first | apply Kd.R_alloc | apply Kd.R_drewN | apply Kd.R_drew)); exact HO_323003.out) (Kd.R_base ho27) hb); have n2_ := Aside0.mk (Kd.V_elder' (by (with_reducible repeat (first | apply Kd.V_alloc | apply Kd.V_drewN | apply Kd.V_drew)); exact HO_323004.out) (Kd.R_base ho27) hb); have n3_ := Aside0.mk (Kd.V_elder' (by (with_reducible repeat (first | apply Kd.V_alloc | apply Kd.V_drewN | apply Kd.V_drew)); exact HO334.out) (Kd.R_base ho27) hb); have n4_ := Aside0.mk (Kd.R_lower (Kd.R_new' ho27 (Kd.R_lt (by (with_reducible repeat (first | apply Kd.R_alloc | apply Kd.R_drewN | apply Kd.R_drew)); exact HO_323003.out))) (below_size (by repeat (first | (with_reducible first | exact HB.out | apply below_alloc | apply pw_below_drewN | apply below_drew1 | refine below_set ?_ GE322.out) | exact HB.out)))); have n5_ := Aside0.mk (blk_below (g := gb322) (o := .cells #[.int .i64 x323000_1, .int .i64 x323001_1, .int .i64 x323002_1, .slice Ao25 x323003_1.length co25, u323004] 63 (0, 0)) (by (with_reducible repeat (first | refine blk_drewN ?_ _ | refine blk_drew ?_ | refine blk_alloc ?_ _)); exact BK322.out) hb); have n6_ := Aside0.mk (below_step (by repeat (first | (with_reducible first | exact HB.out | apply below_alloc | apply pw_below_drewN | apply below_drew1 | refine below_set ?_ GE322.out) | exact HB.out)) hb); clear HO_5; clear HO_323003; clear HO_323004; clear HO334; clear BK322; clear HB; have HO_5 := n0_; have HO_323003 := n1_; have HO_323004 := n2_; have HO334 := n3_; have HO338 := n4_; have BK322 := n5_; have HB := n6_; clear n0_ n1_ n2_ n3_ n4_ n5_ n6_; clear hb ho27; have hcz28_0 : w26.cell? ⟨gb322, 0, none⟩ = some (.int .i64 x323000_1) := (blk_cell BK322.out 0).trans rfl; have hcz28_1 : w26.cell? ⟨gb322, 1, none⟩ = some (.int .i64 x323001_1) := (blk_cell BK322.out 1).trans rfl; have hcz28_2 : w26.cell? ⟨gb322, 2, none⟩ = some (.int .i64 x323002_1) := (blk_cell BK322.out 2).trans rfl; have hcz28_3 : w26.cell? ⟨gb322, 3, none⟩ = some (.slice Ao25 x323003_1.length co25) := (blk_cell BK322.out 3).trans rfl; have hcz28_4 : w26.cell? ⟨gb322, 4, none⟩ = some (u323004) := (blk_cell BK322.out 4).trans rfl; have hfz28_0 := blk_frozen BK322.out 0; have hfz28_1 := blk_frozen BK322.out 1; have hfz28_2 := blk_frozen BK322.out 2; have hfz28_3 := blk_frozen BK322.out 3; have hfz28_4 := blk_frozen BK322.out 4) | ((with_reducible refine gate_builtin (b := .append) (xs := #[.tmp 64, .tmp 66]) rfl ?_); at_builtin; refine Kd.R_append_rows (Kd.int .i64) (w0 := w) w.heap.size rfl (.tmp 64) (.tmp 66) 22 3 (.int .i64 0) 8 rfl Try.underlying22 info3 rfl (by decide) (by omega) v337 y336 x323003_1 _ _ _ (fun k_ => some k_ ≠ (.slice Ao25 x323003_1.length co25 : Value).ownBlock) (fun _ => False) rfl rfl ?aO ?aR (fun _ _ h => h) (fun _ h => h.elim) ?aF ?aB ?aS ?aL ?_; (case aR => repeat (first | exact (Kd.R_reads' HO_323003.out).2.2 | (with_reducible refine Kd.C_alloc ?_ _) | (with_reducible refine Kd.C_drewN ?_ _) | (with_reducible refine Kd.C_drew ?_))); (case aB => exact (by repeat (first | (with_reducible first | exact HB.out | apply below_alloc | apply pw_below_drewN | apply below_drew1 | refine below_set ?_ GE322.out) | exact HB.out))); (case aF => exact (fun k_ hk => Kd.fresh' (Kd.R_lt (by (with_reducible repeat (first | apply Kd.R_alloc | apply Kd.R_drewN | apply Kd.R_drew)); exact HO_323003.out)) k_ hk)); (case aO => exact (by (with_reducible repeat (first | apply Kd.R_alloc | apply Kd.R_drewN | apply Kd.R_drew)); exact Kd.R_mono HO338.out (fun _ hk => hk.2))); (case aS => exact (below_size (by repeat (first | (with_reducible first | exact HB.out | apply below_alloc | apply pw_below_drewN | apply below_drew1 | refine below_set ?_ GE322.out) | exact HB.out)))); (case aL => have := LMc20.out; omega); intro v340 w29 ho hb hg hat; rw [← Ny339.out] at ho; have n0_ := Aside0.mk (Kd.V_afterv (ok := (fun k_ => some k_ ≠ (.slice Ao25 x323003_1.length co25 : Value).ownBlock ∧ k_ ≠ gb322)) (by (with_reducible repeat (first | apply Kd.V_alloc | apply Kd.V_drewN | apply Kd.V_drew)); exact HO_5.out) hg hat); have n1_ := Aside0.mk (Kd.R_after (ok := (fun _ => True)) (by (with_reducible repeat (first | apply Kd.R_alloc | apply Kd.R_drewN | apply Kd.R_drew)); exact HO_323003.out) hg hat); have n2_ := Aside0.mk (Kd.V_afterv (ok := (fun k_ => some k_ ≠ (.slice Ao25 x323003_1.length co25 : Value).ownBlock ∧ k_ ≠ gb322)) (by (with_reducible repeat (first | apply Kd.V_alloc | apply Kd.V_drewN | apply Kd.V_drew)); exact HO_323004.out) hg hat); have n3_ := Aside0.mk (blk_grown (g := gb322) (o := .cells #[.int .i64 x323000_1, .int .i64 x323001_1, .int .i64 x323002_1, .slice Ao25 x323003_1.length co25, u323004] 63 (0, 0)) (by (with_reducible repeat (first | refine blk_drewN ?_ _ | refine blk_drew ?_ | refine blk_alloc ?_ _)); exact BK322.out) hg (Kd.R_ne HO338.out BK322.out (by decide))); have n4_ := Aside0.mk (Kd.V_afterv (ok := (fun k_ => some k_ ≠ (.slice Ao25 x323003_1.length co25 : Value).ownBlock ∧ k_ ≠ gb322)) (by (with_reducible repeat (first | apply Kd.V_alloc | apply Kd.V_drewN | apply Kd.V_drew)); exact HO334.out) hg hat); have n5_ := Aside0.mk (hb); have n6_ := Aside0.mk (ho); clear HO_5; clear HO_323003; clear HO_323004; clear BK322; clear HO334; clear HB; clear HO338; have HO_5 := n0_; have HO_323003 := n1_; have HO_323004 := n2_; have BK322 := n3_; have HO334 := n4_; have HB := n5_; have HO341 := n6_; clear n0_ n1_ n2_ n3_ n4_ n5_ n6_; clear ho hb hg hat) | ((with_reducible refine gate_builtin (b := .append) (xs := #[.tmp 67, .tmp 69]) rfl ?_); at_builtin; refine Kd.R_append (Kd.int .i64) (w0 := w) w.heap.size rfl (.tmp 67) (.tmp 69) 22 3 (.int .i64 0) 8 rfl Try.underlying22 info3 rfl (by decide) (by omega) v340 y339 x9_1 [.int .i64 x9_1] (fun k_ => some k_ ≠ (.slice Ao25 x323003_1.length co25 : Value).ownBlock) (fun _ => False) rfl rfl ?aP (fun _ hk => hk.elim) ?aF ?aO ?aB ?aS ?aL ?_; (case aP => exact rfl); (case aB => exact (by repeat (first | (with_reducible first | exact HB.out | apply below_alloc | apply pw_below_drewN | apply below_drew1 | refine below_set ?_ GE322.out) | exact HB.out))); (case aF => exact (fun k_ hk => Kd.fresh' (Kd.R_lt (by (with_reducible repeat (first | apply Kd.R_alloc | apply Kd.R_drewN | apply Kd.R_drew)); exact HO_323003.out)) k_ hk)); (case aO => exact (by (with_reducible repeat (first | apply Kd.R_alloc | apply Kd.R_drewN | apply Kd.R_drew)); exact HO341.out)); (case aS => exact (below_size (by repeat (first | (with_reducible first | exact HB.out | apply below_alloc | apply pw_below_drewN | apply below_drew1 | refine below_set ?_ GE322.out) | exact HB.out)))); (case aL => have := LMc21.out; omega); intro v343 w30 ho hb hg hat; rw [← Ny342.out] at ho; have n0_ := Aside0.mk (Kd.V_afterv (ok := (fun k_ => some k_ ≠ (.slice Ao25 x323003_1.length co25 : Value).ownBlock ∧ k_ ≠ gb322)) (by (with_reducible repeat (first | apply Kd.V_alloc | apply Kd.V_drewN | apply Kd.V_drew)); exact HO_5.out) hg hat); have n1_ := Aside0.mk (Kd.R_after (ok := (fun _ => True)) (by (with_reducible repeat (first | apply Kd.R_alloc | apply Kd.R_drewN | apply Kd.R_drew)); exact HO_323003.out) hg hat); have n2_ := Aside0.mk (Kd.V_afterv (ok := (fun k_ => some k_ ≠ (.slice Ao25 x323003_1.length co25 : Value).ownBlock ∧ k_ ≠ gb322)) (by (with_reducible repeat (first | apply Kd.V_alloc | apply Kd.V_drewN | apply Kd.V_drew)); exact HO_323004.out) hg hat); have n3_ := Aside0.mk (blk_grown (g := gb322) (o := .cells #[.int .i64 x323000_1, .int .i64 x323001_1, .int .i64 x323002_1, .slice Ao25 x323003_1.length co25, u323004] 63 (0, 0)) (by (with_reducible repeat (first | refine blk_drewN ?_ _ | refine blk_drew ?_ | refine blk_alloc ?_ _)); exact BK322.out) hg (Kd.R_ne HO341.out BK322.out (by decide))); have n4_ := Aside0.mk (Kd.V_afterv (ok := (fun k_ => some k_ ≠ (.slice Ao25 x323003_1.length co25 : Value).ownBlock ∧ k_ ≠ gb322)) (by (with_reducible repeat (first | apply Kd.V_alloc | apply Kd.V_drewN | apply Kd.V_drew)); exact HO334.out) hg hat); have n5_ := Aside0.mk (hb); have n6_ := Aside0.mk (ho); clear HO_5; clear HO_323003; clear HO_323004; clear BK322; clear HO334; clear HB; clear HO341; have HO_5 := n0_; have HO_323003 := n1_; have HO_323004 := n2_; have BK322 := n3_; have HO334 := n4_; have HB := n5_; have HO344 := n6_; clear n0_ n1_ n2_ n3_ n4_ n5_ n6_; clear ho hb hg hat; obtain ⟨Ao31, co31, eo31⟩ := Kd.R_slice HO344.out; subst eo31; have hcz32_0 : w30.cell? ⟨gb322, 0, none⟩ = some (.int .i64 x323000_1) := (blk_cell BK322.out 0).trans rfl; have hcz32_1 : w30.cell? ⟨gb322, 1, none⟩ = some (.int .i64 x323001_1) := (blk_cell BK322.out 1).trans rfl; have hcz32_2 : w30.cell? ⟨gb322, 2, none⟩ = some (.int .i64 x323002_1) := (blk_cell BK322.out 2).trans rfl; have hcz32_3 : w30.cell? ⟨gb322, 3, none⟩ = some (.slice Ao25 x323003_1.length co25) := (blk_cell BK322.out 3).trans rfl; have hcz32_4 : w30.cell? ⟨gb322, 4, none⟩ = some (u323004) := (blk_cell BK322.out 4).trans rfl; have hfz32_0 := blk_frozen BK322.out 0; have hfz32_1 := blk_frozen BK322.out 1; have hfz32_2 := blk_frozen BK322.out 2; have hfz32_3 := blk_frozen BK322.out 3; have hfz32_4 := blk_frozen BK322.out 4))
                            go_roundg kj10
                            case measure => have := HK1.out; have := HJ10.out; omega
                            case rel => exact ⟨(t332), (x8_1), (wrap64 (x9_1 + 1)), (x323000_1), (x323001_1), (x323002_1), (y342), (x323004_1), (.slice Ao31 y342.length co31), (u323004), (by first | rfl | (simp; done) | (simp [*]; done)), (by first | rfl | (simp; done) | (simp [*]; done)), H', ⟨by have := HK1.out; have := HJ10.out; omega⟩, ⟨by (with_reducible repeat (first | apply Kd.V_alloc | apply Kd.V_drewN | apply Kd.V_drew)); exact Kd.V_mono (Kd.V_far (p := ⟨gb322, 3, none⟩) (Kd.V_mono HO334.out (fun k_ hk => (⟨hk, hk.1.2⟩ : _ ∧ k_ ≠ gb322))) (fun _ hk => hk.2) (.slice Ao31 y342.length co31)) (fun _ hk => ⟨hk.1.2, hk.1.1.2⟩)⟩, ⟨by (with_reducible repeat (first | apply Kd.R_alloc | apply Kd.R_drewN | apply Kd.R_drew)); exact Kd.R_mono (Kd.R_far (p := ⟨gb322, 3, none⟩) (Kd.R_types HO344.out BK322.out (by decide)) (fun _ hk => hk.2) (.slice Ao31 y342.length co31)) (fun _ hk => trivial)⟩, ⟨by (with_reducible repeat (first | apply Kd.V_alloc | apply Kd.V_drewN | apply Kd.V_drew)); exact Kd.V_mono (Kd.V_far (p := ⟨gb322, 3, none⟩) (Kd.V_mono HO_323004.out (fun k_ hk => (⟨hk, hk.1.2⟩ : _ ∧ k_ ≠ gb322))) (fun _ hk => hk.2) (.slice Ao31 y342.length co31)) (fun _ hk => ⟨hk.1.2, hk.1.1.2⟩)⟩, ⟨by (with_reducible repeat (first | refine blk_drewN ?_ _ | refine blk_drew ?_ | refine blk_alloc ?_ _)); refine blk_put (cs := #[.int .i64 x323000_1, .int .i64 x323001_1, .int .i64 x323002_1, .slice Ao25 x323003_1.length co25, u323004]) ?_ 3 _ rfl; (with_reducible repeat (first | refine blk_drewN ?_ _ | refine blk_drew ?_ | refine blk_alloc ?_ _)); exact BK322.out⟩, ⟨by repeat (first | (with_reducible first | exact HB.out | apply below_alloc | apply pw_below_drewN | apply below_drew1 | refine below_set ?_ GE322.out) | exact HB.out)⟩⟩
                          · rw [if_neg c21] at H
                            exact absurd H (by simp)
                        · rw [if_neg c20] at H
                          exact absurd H (by simp)
                      · rw [if_neg c19] at H
                        have c19b0 : (t335 == 0) = false := beq_eq_false_iff_ne.mpr c19
                        have c18b0q : (decide ((x323003_1.length : Int) < a0)) = false := by have h_ := c18b0; rw [c19b0] at h_; revert h_; generalize (decide ((x323003_1.length : Int) < a0)) = q_; cases q_ <;> decide
                        have c19b1 : (t335 != 0) = true := bne_iff_ne.mpr c19
                        have H' := Aside0.mk H
                        clear H
                        have p331 : 0 ≤ (x9_1 : Int) := of_decide_eq_true (by first | (with_reducible assumption) | assumption)
                        have q331 : x9_1 < (l1.length : Int) := of_decide_eq_true (by first | (with_reducible assumption) | assumption)
                        obtain ⟨ad331, e331, hx331_0⟩ := Kd.at_int HR1.out x9_1 p331 q331
                        cases e331
                        replace hx331_0 := (HB.out.cell (World.block_lt_of_cell? w _ hx331_0)).trans hx331_0
                        replace p331 := eq_true p331
                        replace q331 := eq_true q331
                        obtain ⟨Ao33, co33, eo33⟩ := Kd.V_slice HO_5.out
                        subst eo33
                        go_wp2_with (first | ((with_reducible refine gate_callee (f := 28) rfl ?_); refine goesL_ (some 51) rfl rfl Try.func28 (by kernel_rfl) rfl #[.slice Ao33 x5_1.length co33, .int .i64 1, .int .i64 0, .int .i64 x9_1] rfl (by (try simp only [List.map_toArray, List.map_cons, List.map_nil]); first | done | rfl | (simp only [List.length_drop, List.length_take]; rfl)) ?_; (with_reducible refine (port_Send.calls kj10 (fun k_ => (some k_ ≠ (u323003 : Value).ownBlock ∧ k_ ≠ gb322)) _ _ x5_1 1 0 x9_1 t332 t335 _ ?side1 A17.out).mono ?_); (case side1 => exact HO_5.out); rintro e w34 ⟨v333, rfl, ho0, hb⟩; refine ⟨_, rfl, ?_⟩; have n0_ := Aside0.mk (Kd.V_below (by (with_reducible repeat (first | apply Kd.V_alloc | apply Kd.V_drewN | apply Kd.V_drew)); exact HO_5.out) hb); have n1_ := Aside0.mk (Kd.R_below (by (with_reducible repeat (first | apply Kd.R_alloc | apply Kd.R_drewN | apply Kd.R_drew)); exact HO_323003.out) hb); have n2_ := Aside0.mk (Kd.V_below (by (with_reducible repeat (first | apply Kd.V_alloc | apply Kd.V_drewN | apply Kd.V_drew)); exact HO_323004.out) hb); have n3_ := Aside0.mk (Kd.V_lower (Kd.V_mono (ok' := fun k_ => some k_ ≠ (u323003 : Value).ownBlock ∧ k_ ≠ gb322) ho0 (fun k_ hk_ => ⟨Or.elim hk_ (fun hs_ => hs_.1) (fun hn_ => (Kd.fresh' (Kd.R_lt (by (with_reducible repeat (first | apply Kd.R_alloc | apply Kd.R_drewN | apply Kd.R_drew)); exact HO_323003.out)) k_ hn_)), Or.elim hk_ (fun hs_ => hs_.2) (fun hn_ => (Kd.freshB (g := gb322) (o := .cells #[.int .i64 x323000_1, .int .i64 x323001_1, .int .i64 x323002_1, u323003, u323004] 63 (0, 0)) (by (with_reducible repeat (first | refine blk_drewN ?_ _ | refine blk_drew ?_ | refine blk_alloc ?_ _)); exact BK322.out) k_ hn_))⟩)) (below_size (by repeat (first | (with_reducible first | exact HB.out | apply below_alloc | apply pw_below_drewN | apply below_drew1 | refine below_set ?_ GE322.out) | exact HB.out)))); have n4_ := Aside0.mk (blk_below (g := gb322) (o := .cells #[.int .i64 x323000_1, .int .i64 x323001_1, .int .i64 x323002_1, u323003, u323004] 63 (0, 0)) (by (with_reducible repeat (first | refine blk_drewN ?_ _ | refine blk_drew ?_ | refine blk_alloc ?_ _)); exact BK322.out) hb); have n5_ := Aside0.mk (below_step (by repeat (first | (with_reducible first | exact HB.out | apply below_alloc | apply pw_below_drewN | apply below_drew1 | refine below_set ?_ GE322.out) | exact HB.out)) hb); clear HO_5; clear HO_323003; clear HO_323004; clear BK322; clear HB; have HO_5 := n0_; have HO_323003 := n1_; have HO_323004 := n2_; have HO334 := n3_; have BK322 := n4_; have HB := n5_; clear n0_ n1_ n2_ n3_ n4_ n5_; (try clear hb); (try clear hb2); (try clear hk); (try clear hi); (try clear ho0); have hcz35_0 : w34.cell? ⟨gb322, 0, none⟩ = some (.int .i64 x323000_1) := (blk_cell BK322.out 0).trans rfl; have hcz35_1 : w34.cell? ⟨gb322, 1, none⟩ = some (.int .i64 x323001_1) := (blk_cell BK322.out 1).trans rfl; have hcz35_2 : w34.cell? ⟨gb322, 2, none⟩ = some (.int .i64 x323002_1) := (blk_cell BK322.out 2).trans rfl; have hcz35_3 : w34.cell? ⟨gb322, 3, none⟩ = some (u323003) := (blk_cell BK322.out 3).trans rfl; have hcz35_4 : w34.cell? ⟨gb322, 4, none⟩ = some (u323004) := (blk_cell BK322.out 4).trans rfl; have hfz35_0 := blk_frozen BK322.out 0; have hfz35_1 := blk_frozen BK322.out 1; have hfz35_2 := blk_frozen BK322.out 2; have hfz35_3 := blk_frozen BK322.out 3; have hfz35_4 := blk_frozen BK322.out 4; obtain ⟨Ao36, co36, eo36⟩ := Kd.R_slice HO_323003.out; subst eo36))
                        go_roundg kj10
                        case measure => have := HK1.out; have := HJ10.out; omega
                        case rel => exact ⟨(t332), (x8_1), (wrap64 (x9_1 + 1)), (x323000_1), (x323001_1), (x323002_1), (x323003_1), (x323004_1), (.slice Ao36 x323003_1.length co36), (u323004), (by first | rfl | (simp; done) | (simp [*]; done)), (by first | rfl | (simp; done) | (simp [*]; done)), H', ⟨by have := HK1.out; have := HJ10.out; omega⟩, ⟨by (with_reducible repeat (first | apply Kd.V_alloc | apply Kd.V_drewN | apply Kd.V_drew)); exact HO334.out⟩, ⟨by (with_reducible repeat (first | apply Kd.R_alloc | apply Kd.R_drewN | apply Kd.R_drew)); exact HO_323003.out⟩, ⟨by (with_reducible repeat (first | apply Kd.V_alloc | apply Kd.V_drewN | apply Kd.V_drew)); exact HO_323004.out⟩, ⟨by (with_reducible repeat (first | refine blk_drewN ?_ _ | refine blk_drew ?_ | refine blk_alloc ?_ _)); exact BK322.out⟩, ⟨by repeat (first | (with_reducible first | exact HB.out | apply below_alloc | apply pw_below_drewN | apply below_drew1 | refine below_set ?_ GE322.out) | exact HB.out)⟩⟩
                  · rw [if_neg c16] at H
                    have c16b0 : ((rd l1 x9_1) == 0) = false := beq_eq_false_iff_ne.mpr c16
                    have c16b1 : ((rd l1 x9_1) != 0) = true := bne_iff_ne.mpr c16
                    by_cases c37 : (rd l1 x9_1) = 1
                    · rw [if_pos c37] at H
                      have c37b0 : ((rd l1 x9_1) == 1) = true := beq_iff_eq.mpr c37
                      have c37b1 : ((rd l1 x9_1) != 1) = false := bne_eq_false_iff_eq.mpr c37
                      clear c37
                      replace H := Option.bind_eq_some_iff.mp H
                      obtain ⟨⟨t346, t347, t350⟩, A380, H⟩ := H
                      replace H : (if ((t350 == 0) != (decide ((x323004_1.length : Int) > 0))) = true then (remontoirlaw18_PortOrders.j2 kj10 a0 l1 x8_1 x9_1 t346 t347 t350 true x323000_1 x323001_1 x323002_1 x323003_1 x323004_1) else (if t350 = 0 then (if 0 < (x323004_1.length : Int) then (if t346 = (rd x323004_1 0) then (remontoirlaw18_PortOrders.j2 kj10 a0 l1 x8_1 x9_1 t346 t347 t350 (decide (t346 ≤ x8_1)) x323000_1 x323001_1 x323002_1 x323003_1 x323004_1) else (remontoirlaw18_PortOrders.j2 kj10 a0 l1 x8_1 x9_1 t346 t347 t350 true x323000_1 x323001_1 x323002_1 x323003_1 x323004_1)) else (none)) else (remontoirlaw18_PortOrders.j2 kj10 a0 l1 x8_1 x9_1 t346 t347 t350 false x323000_1 x323001_1 x323002_1 x323003_1 x323004_1))) = some true := H
                      have A38 := Aside0.mk A380
                      clear A380
                      have HC39 := Aside0.mk H
                      clear H
                      have p331 : 0 ≤ (x9_1 : Int) := of_decide_eq_true (by first | (with_reducible assumption) | assumption)
                      have q331 : x9_1 < (l1.length : Int) := of_decide_eq_true (by first | (with_reducible assumption) | assumption)
                      obtain ⟨ad331, e331, hx331_0⟩ := Kd.at_int HR1.out x9_1 p331 q331
                      cases e331
                      replace hx331_0 := (HB.out.cell (World.block_lt_of_cell? w _ hx331_0)).trans hx331_0
                      replace p331 := eq_true p331
                      replace q331 := eq_true q331
                      have p345 : 0 ≤ (x9_1 : Int) := of_decide_eq_true (by first | (with_reducible assumption) | assumption)
                      have q345 : x9_1 < (l1.length : Int) := of_decide_eq_true (by first | (with_reducible assumption) | assumption)
                      obtain ⟨ad345, e345, hx345_0⟩ := Kd.at_int HR1.out x9_1 p345 q345
                      obtain rfl : ad331 = ad345 := (by injection e345)
                      replace hx345_0 := (HB.out.cell (World.block_lt_of_cell? w _ hx345_0)).trans hx345_0
                      replace p345 := eq_true p345
                      replace q345 := eq_true q345
                      obtain ⟨Ao40, co40, eo40⟩ := Kd.V_slice HO_5.out
                      subst eo40
                      go_upto_region 18 with (first | ((with_reducible refine gate_callee (f := 29) rfl ?_); refine goesL_ (some 80) rfl rfl Try.func29 (by kernel_rfl) rfl #[.slice Ao40 x5_1.length co40, .int .i64 0, .int .i64 0] rfl (by (try simp only [List.map_toArray, List.map_cons, List.map_nil]); first | done | rfl | (simp only [List.length_drop, List.length_take]; rfl)) ?_; (with_reducible refine (port_Read.calls kj10 (fun k_ => (some k_ ≠ (u323003 : Value).ownBlock ∧ k_ ≠ gb322)) _ _ x5_1 0 0 t346 t347 t350 _ ?side1 A38.out).mono ?_); (case side1 => exact HO_5.out); rintro e w41 ⟨v348, rfl, ho0, hb⟩; refine ⟨_, rfl, ?_⟩; have n0_ := Aside0.mk (Kd.V_below (by (with_reducible repeat (first | apply Kd.V_alloc | apply Kd.V_drewN | apply Kd.V_drew)); exact HO_5.out) hb); have n1_ := Aside0.mk (Kd.R_below (by (with_reducible repeat (first | apply Kd.R_alloc | apply Kd.R_drewN | apply Kd.R_drew)); exact HO_323003.out) hb); have n2_ := Aside0.mk (Kd.V_below (by (with_reducible repeat (first | apply Kd.V_alloc | apply Kd.V_drewN | apply Kd.V_drew)); exact HO_323004.out) hb); have n3_ := Aside0.mk (Kd.V_lower (Kd.V_mono (ok' := fun k_ => some k_ ≠ (u323003 : Value).ownBlock ∧ k_ ≠ gb322) ho0 (fun k_ hk_ => ⟨Or.elim hk_ (fun hs_ => hs_.1) (fun hn_ => (Kd.fresh' (Kd.R_lt (by (with_reducible repeat (first | apply Kd.R_alloc | apply Kd.R_drewN | apply Kd.R_drew)); exact HO_323003.out)) k_ hn_)), Or.elim hk_ (fun hs_ => hs_.2) (fun hn_ => (Kd.freshB (g := gb322) (o := .cells #[.int .i64 x323000_1, .int .i64 x323001_1, .int .i64 x323002_1, u323003, u323004] 63 (0, 0)) (by (with_reducible repeat (first | refine blk_drewN ?_ _ | refine blk_drew ?_ | refine blk_alloc ?_ _)); exact BK322.out) k_ hn_))⟩)) (below_size (by repeat (first | (with_reducible first | exact HB.out | apply below_alloc | apply pw_below_drewN | apply below_drew1 | refine below_set ?_ GE322.out) | exact HB.out)))); have n4_ := Aside0.mk (blk_below (g := gb322) (o := .cells #[.int .i64 x323000_1, .int .i64 x323001_1, .int .i64 x323002_1, u323003, u323004] 63 (0, 0)) (by (with_reducible repeat (first | refine blk_drewN ?_ _ | refine blk_drew ?_ | refine blk_alloc ?_ _)); exact BK322.out) hb); have n5_ := Aside0.mk (below_step (by repeat (first | (with_reducible first | exact HB.out | apply below_alloc | apply pw_below_drewN | apply below_drew1 | refine below_set ?_ GE322.out) | exact HB.out)) hb); clear HO_5; clear HO_323003; clear HO_323004; clear BK322; clear HB; have HO_5 := n0_; have HO_323003 := n1_; have HO_323004 := n2_; have HO349 := n3_; have BK322 := n4_; have HB := n5_; clear n0_ n1_ n2_ n3_ n4_ n5_; (try clear hb); (try clear hb2); (try clear hk); (try clear hi); (try clear ho0)))
                      (try simp only [Act.put, List.setIfInBounds_toArray, List.set_cons_zero, List.set_cons_succ])
                      go_cut [107] (fun v107 wc => ∃ (kq : Nat) (x107_38 : Bool), v107 = .bool x107_38 ∧ Aside0 (remontoirlaw18_PortOrders.j2 kq a0 l1 x8_1 x9_1 t346 t347 t350 x107_38 x323000_1 x323001_1 x323002_1 x323003_1 x323004_1 = some true) ∧ Aside0 (kq ≤ kj10) ∧ Aside0 (Kd.V k76 76 wc w.heap.size (fun k_ => some k_ ≠ (u323003 : Value).ownBlock ∧ k_ ≠ gb322) v348 t347) ∧ Aside0 (Kd.R (Kd.int .i64) 3 wc w.heap.size (fun _ => True) u323003 x323003_1) ∧ Aside0 (Kd.V (Kd.int .i64) 3 wc w.heap.size (fun k_ => some k_ ≠ (u323003 : Value).ownBlock ∧ k_ ≠ gb322) u323004 x323004_1) ∧ Aside0 (wc.heap[gb322]? = some (.cells #[.int .i64 x323000_1, .int .i64 x323001_1, .int .i64 x323002_1, u323003, u323004] 63 (0, 0))) ∧ Aside0 (Below w.heap.size w wc))
                      case first =>
                        have H := HC39.out
                        clear HC39
                        by_cases c42 : ((t350 == 0) != (decide ((x323004_1.length : Int) > 0))) = true
                        · rw [if_pos c42] at H
                          have c42b0 : ((t350 == 0) != (decide ((x323004_1.length : Int) > 0))) = true := c42
                          have c42b0g : ((t350 == 0) != (decide (0 < (x323004_1.length : Int)))) = true := c42b0
                          have c42b0n : ((t350 == 0) != decide (0 < x323004_1.length)) = true := by rw [← show decide ((0 : Int) < (x323004_1.length : Int)) = decide (0 < x323004_1.length) from by simp]; exact c42b0
                          have c42b0m : ((t350 == 0) = decide (0 < x323004_1.length)) = False := eq_false (bne_iff_ne.mp c42b0n)
                          (try (have c42b1 : decide ((t350 == 0) = (decide ((x323004_1.length : Int) > 0))) = false := by simpa using c42))
                          (try (have c42b2 : ((t350 == 0) == (decide ((x323004_1.length : Int) > 0))) = false := by simpa using c42))
                          (try (have c42b3 : ¬ ((t350 == 0) = (decide ((x323004_1.length : Int) > 0))) := by simpa using c42))
                          clear c42
                          (first | rw [c42b0] | (simp only [i64_w, i32_w]; rw [c42b0]) | rw [c42b1] | (simp only [i64_w, i32_w]; rw [c42b1]) | skip)
                          have H' := Aside0.mk H
                          clear H
                          have hcz43_0 : w41.cell? ⟨gb322, 0, none⟩ = some (.int .i64 x323000_1) := (blk_cell BK322.out 0).trans rfl
                          have hcz43_1 : w41.cell? ⟨gb322, 1, none⟩ = some (.int .i64 x323001_1) := (blk_cell BK322.out 1).trans rfl
                          have hcz43_2 : w41.cell? ⟨gb322, 2, none⟩ = some (.int .i64 x323002_1) := (blk_cell BK322.out 2).trans rfl
                          have hcz43_3 : w41.cell? ⟨gb322, 3, none⟩ = some (u323003) := (blk_cell BK322.out 3).trans rfl
                          have hcz43_4 : w41.cell? ⟨gb322, 4, none⟩ = some (u323004) := (blk_cell BK322.out 4).trans rfl
                          have hfz43_0 := blk_frozen BK322.out 0
                          have hfz43_1 := blk_frozen BK322.out 1
                          have hfz43_2 := blk_frozen BK322.out 2
                          have hfz43_3 := blk_frozen BK322.out 3
                          have hfz43_4 := blk_frozen BK322.out 4
                          obtain ⟨Ao44, co44, eo44⟩ := Kd.V_slice HO_323004.out
                          subst eo44
                          go_wp2
                          go_meet
                          case rel => exact ⟨_, (true), (by first | rfl | (simp; done) | (simp [*]; done)), H', ⟨by have := HK1.out; have := HJ10.out; first | omega | exact Nat.le_refl _⟩, ⟨by (with_reducible repeat (first | apply Kd.V_alloc | apply Kd.V_drewN | apply Kd.V_drew)); exact HO349.out⟩, ⟨by (with_reducible repeat (first | apply Kd.R_alloc | apply Kd.R_drewN | apply Kd.R_drew)); exact HO_323003.out⟩, ⟨by (with_reducible repeat (first | apply Kd.V_alloc | apply Kd.V_drewN | apply Kd.V_drew)); exact HO_323004.out⟩, ⟨by (with_reducible repeat (first | refine blk_drewN ?_ _ | refine blk_drew ?_ | refine blk_alloc ?_ _)); exact BK322.out⟩, ⟨by repeat (first | (with_reducible first | exact HB.out | apply below_alloc | apply pw_below_drewN | apply below_drew1 | refine below_set ?_ GE322.out) | exact HB.out)⟩⟩
                        · rw [if_neg c42] at H
                          have c42b0 : ((t350 == 0) != (decide ((x323004_1.length : Int) > 0))) = false := by simpa using c42
                          have c42b0g : ((t350 == 0) != (decide (0 < (x323004_1.length : Int)))) = false := c42b0
                          have c42b0n : ((t350 == 0) != decide (0 < x323004_1.length)) = false := by rw [← show decide ((0 : Int) < (x323004_1.length : Int)) = decide (0 < x323004_1.length) from by simp]; exact c42b0
                          have c42b0m : ((t350 == 0) = decide (0 < x323004_1.length)) = True := eq_true (bne_eq_false_iff_eq.mp c42b0n)
                          (try (have c42b1 : decide ((t350 == 0) = (decide ((x323004_1.length : Int) > 0))) = true := by simpa using c42))
                          (try (have c42b2 : ((t350 == 0) == (decide ((x323004_1.length : Int) > 0))) = true := by simpa using c42))
                          clear c42
                          (first | rw [c42b0] | (simp only [i64_w, i32_w]; rw [c42b0]) | rw [c42b1] | (simp only [i64_w, i32_w]; rw [c42b1]) | skip)
                          by_cases c45 : t350 = 0
                          · rw [if_pos c45] at H
                            have c45b0 : (t350 == 0) = true := beq_iff_eq.mpr c45
                            have c42b0q : (decide ((x323004_1.length : Int) > 0)) = true := by have h_ := c42b0; rw [c45b0] at h_; revert h_; generalize (decide ((x323004_1.length : Int) > 0)) = q_; cases q_ <;> decide
                            have c42b0r : decide (0 < (x323004_1.length : Int)) = true := c42b0q
                            have c42b0s : decide (0 < x323004_1.length) = true := by rw [← show decide ((0 : Int) < (x323004_1.length : Int)) = decide (0 < x323004_1.length) from by simp]; exact c42b0q
                            have c45b1 : (t350 != 0) = false := bne_eq_false_iff_eq.mpr c45
                            clear c45
                            by_cases c46 : 0 < (x323004_1.length : Int)
                            · rw [if_pos c46] at H
                              have c46b0 : decide (0 < (x323004_1.length : Int)) = true := decide_eq_true c46
                              have c46b1 : decide (0 < x323004_1.length) = true := decide_eq_true (by omega)
                              clear c46
                              by_cases c47 : t346 = (rd x323004_1 0)
                              · rw [if_pos c47] at H
                                have c47b0 : (t346 == (rd x323004_1 0)) = true := beq_iff_eq.mpr c47
                                have c47b1 : (t346 != (rd x323004_1 0)) = false := bne_eq_false_iff_eq.mpr c47
                                clear c47
                                have H' := Aside0.mk H
                                clear H
                                have hcz48_0 : w41.cell? ⟨gb322, 0, none⟩ = some (.int .i64 x323000_1) := (blk_cell BK322.out 0).trans rfl
                                have hcz48_1 : w41.cell? ⟨gb322, 1, none⟩ = some (.int .i64 x323001_1) := (blk_cell BK322.out 1).trans rfl
                                have hcz48_2 : w41.cell? ⟨gb322, 2, none⟩ = some (.int .i64 x323002_1) := (blk_cell BK322.out 2).trans rfl
                                have hcz48_3 : w41.cell? ⟨gb322, 3, none⟩ = some (u323003) := (blk_cell BK322.out 3).trans rfl
                                have hcz48_4 : w41.cell? ⟨gb322, 4, none⟩ = some (u323004) := (blk_cell BK322.out 4).trans rfl
                                have hfz48_0 := blk_frozen BK322.out 0
                                have hfz48_1 := blk_frozen BK322.out 1
                                have hfz48_2 := blk_frozen BK322.out 2
                                have hfz48_3 := blk_frozen BK322.out 3
                                have hfz48_4 := blk_frozen BK322.out 4
                                obtain ⟨Ao49, co49, eo49⟩ := Kd.V_slice HO_323004.out
                                subst eo49
                                have p351 : 0 ≤ (0 : Int) := (by omega)
                                have q351 : 0 < (x323004_1.length : Int) := of_decide_eq_true (by first | (with_reducible assumption) | assumption)
                                obtain ⟨ad351, e351, hx351_0⟩ := Kd.at_int (Kd.V_reads' HO_323004.out).2.2 0 p351 q351
                                cases e351
                                have qi351 : (0 < x323004_1.length) = True := eq_true (by omega)
                                (try rw [show ((0 : Int)).toNat = 0 from rfl] at hx351_0)
                                (try rw [Addr.add_zero'] at hx351_0)
                                replace p351 := eq_true p351
                                replace q351 := eq_true q351
                                go_wp2
                                go_meet
                                case rel => exact ⟨_, (decide (t346 ≤ x8_1)), (by first | rfl | (simp; done) | (simp [*]; done)), H', ⟨by have := HK1.out; have := HJ10.out; first | omega | exact Nat.le_refl _⟩, ⟨by (with_reducible repeat (first | apply Kd.V_alloc | apply Kd.V_drewN | apply Kd.V_drew)); exact HO349.out⟩, ⟨by (with_reducible repeat (first | apply Kd.R_alloc | apply Kd.R_drewN | apply Kd.R_drew)); exact HO_323003.out⟩, ⟨by (with_reducible repeat (first | apply Kd.V_alloc | apply Kd.V_drewN | apply Kd.V_drew)); exact HO_323004.out⟩, ⟨by (with_reducible repeat (first | refine blk_drewN ?_ _ | refine blk_drew ?_ | refine blk_alloc ?_ _)); exact BK322.out⟩, ⟨by repeat (first | (with_reducible first | exact HB.out | apply below_alloc | apply pw_below_drewN | apply below_drew1 | refine below_set ?_ GE322.out) | exact HB.out)⟩⟩
                              · rw [if_neg c47] at H
                                have c47b0 : (t346 == (rd x323004_1 0)) = false := beq_eq_false_iff_ne.mpr c47
                                have c47b1 : (t346 != (rd x323004_1 0)) = true := bne_iff_ne.mpr c47
                                have H' := Aside0.mk H
                                clear H
                                have hcz50_0 : w41.cell? ⟨gb322, 0, none⟩ = some (.int .i64 x323000_1) := (blk_cell BK322.out 0).trans rfl
                                have hcz50_1 : w41.cell? ⟨gb322, 1, none⟩ = some (.int .i64 x323001_1) := (blk_cell BK322.out 1).trans rfl
                                have hcz50_2 : w41.cell? ⟨gb322, 2, none⟩ = some (.int .i64 x323002_1) := (blk_cell BK322.out 2).trans rfl
                                have hcz50_3 : w41.cell? ⟨gb322, 3, none⟩ = some (u323003) := (blk_cell BK322.out 3).trans rfl
                                have hcz50_4 : w41.cell? ⟨gb322, 4, none⟩ = some (u323004) := (blk_cell BK322.out 4).trans rfl
                                have hfz50_0 := blk_frozen BK322.out 0
                                have hfz50_1 := blk_frozen BK322.out 1
                                have hfz50_2 := blk_frozen BK322.out 2
                                have hfz50_3 := blk_frozen BK322.out 3
                                have hfz50_4 := blk_frozen BK322.out 4
                                obtain ⟨Ao51, co51, eo51⟩ := Kd.V_slice HO_323004.out
                                subst eo51
                                have p351 : 0 ≤ (0 : Int) := (by omega)
                                have q351 : 0 < (x323004_1.length : Int) := of_decide_eq_true (by first | (with_reducible assumption) | assumption)
                                obtain ⟨ad351, e351, hx351_0⟩ := Kd.at_int (Kd.V_reads' HO_323004.out).2.2 0 p351 q351
                                cases e351
                                have qi351 : (0 < x323004_1.length) = True := eq_true (by omega)
                                (try rw [show ((0 : Int)).toNat = 0 from rfl] at hx351_0)
                                (try rw [Addr.add_zero'] at hx351_0)
                                replace p351 := eq_true p351
                                replace q351 := eq_true q351
                                go_wp2
                                go_meet
                                case rel => exact ⟨_, (true), (by first | rfl | (simp; done) | (simp [*]; done)), H', ⟨by have := HK1.out; have := HJ10.out; first | omega | exact Nat.le_refl _⟩, ⟨by (with_reducible repeat (first | apply Kd.V_alloc | apply Kd.V_drewN | apply Kd.V_drew)); exact HO349.out⟩, ⟨by (with_reducible repeat (first | apply Kd.R_alloc | apply Kd.R_drewN | apply Kd.R_drew)); exact HO_323003.out⟩, ⟨by (with_reducible repeat (first | apply Kd.V_alloc | apply Kd.V_drewN | apply Kd.V_drew)); exact HO_323004.out⟩, ⟨by (with_reducible repeat (first | refine blk_drewN ?_ _ | refine blk_drew ?_ | refine blk_alloc ?_ _)); exact BK322.out⟩, ⟨by repeat (first | (with_reducible first | exact HB.out | apply below_alloc | apply pw_below_drewN | apply below_drew1 | refine below_set ?_ GE322.out) | exact HB.out)⟩⟩
                            · rw [if_neg c46] at H
                              exact absurd H (by simp)
                          · rw [if_neg c45] at H
                            have c45b0 : (t350 == 0) = false := beq_eq_false_iff_ne.mpr c45
                            have c42b0q : (decide ((x323004_1.length : Int) > 0)) = false := by have h_ := c42b0; rw [c45b0] at h_; revert h_; generalize (decide ((x323004_1.length : Int) > 0)) = q_; cases q_ <;> decide
                            have c42b0r : decide (0 < (x323004_1.length : Int)) = false := c42b0q
                            have c42b0s : decide (0 < x323004_1.length) = false := by rw [← show decide ((0 : Int) < (x323004_1.length : Int)) = decide (0 < x323004_1.length) from by simp]; exact c42b0q
                            have c45b1 : (t350 != 0) = true := bne_iff_ne.mpr c45
                            have H' := Aside0.mk H
                            clear H
                            have hcz52_0 : w41.cell? ⟨gb322, 0, none⟩ = some (.int .i64 x323000_1) := (blk_cell BK322.out 0).trans rfl
                            have hcz52_1 : w41.cell? ⟨gb322, 1, none⟩ = some (.int .i64 x323001_1) := (blk_cell BK322.out 1).trans rfl
                            have hcz52_2 : w41.cell? ⟨gb322, 2, none⟩ = some (.int .i64 x323002_1) := (blk_cell BK322.out 2).trans rfl
                            have hcz52_3 : w41.cell? ⟨gb322, 3, none⟩ = some (u323003) := (blk_cell BK322.out 3).trans rfl
                            have hcz52_4 : w41.cell? ⟨gb322, 4, none⟩ = some (u323004) := (blk_cell BK322.out 4).trans rfl
                            have hfz52_0 := blk_frozen BK322.out 0
                            have hfz52_1 := blk_frozen BK322.out 1
                            have hfz52_2 := blk_frozen BK322.out 2
                            have hfz52_3 := blk_frozen BK322.out 3
                            have hfz52_4 := blk_frozen BK322.out 4
                            obtain ⟨Ao53, co53, eo53⟩ := Kd.V_slice HO_323004.out
                            subst eo53
                            go_wp2
                            go_meet
                            case rel => exact ⟨_, (false), (by first | rfl | (simp; done) | (simp [*]; done)), H', ⟨by have := HK1.out; have := HJ10.out; first | omega | exact Nat.le_refl _⟩, ⟨by (with_reducible repeat (first | apply Kd.V_alloc | apply Kd.V_drewN | apply Kd.V_drew)); exact HO349.out⟩, ⟨by (with_reducible repeat (first | apply Kd.R_alloc | apply Kd.R_drewN | apply Kd.R_drew)); exact HO_323003.out⟩, ⟨by (with_reducible repeat (first | apply Kd.V_alloc | apply Kd.V_drewN | apply Kd.V_drew)); exact HO_323004.out⟩, ⟨by (with_reducible repeat (first | refine blk_drewN ?_ _ | refine blk_drew ?_ | refine blk_alloc ?_ _)); exact BK322.out⟩, ⟨by repeat (first | (with_reducible first | exact HB.out | apply below_alloc | apply pw_below_drewN | apply below_drew1 | refine below_set ?_ GE322.out) | exact HB.out)⟩⟩
                      case rest =>
                        clear HC39
                        try clear c1
                        try clear c2
                        try clear p2
                        try clear c3
                        try clear p3
                        try clear q3
                        try clear hx3
                        try clear qi3
                        try clear c4
                        try clear c4b0
                        try clear c4b1
                        try clear p6
                        try clear c11
                        try clear c12
                        try clear c12b0
                        try clear c13
                        try clear c14
                        try clear c14b0
                        try clear c15
                        try clear c15b0
                        try clear c16
                        try clear c16b0
                        try clear c16b1
                        try clear c18
                        try clear c18b0
                        try clear c18b1
                        try clear c18b2
                        try clear c19
                        try clear c19b0
                        try clear c19b1
                        try clear c20
                        try clear c21
                        try clear c26
                        try clear c28
                        try clear c29
                        try clear p33
                        try clear q33
                        try clear hx33
                        try clear p34
                        try clear q34
                        try clear hx34
                        try clear p35
                        try clear q35
                        try clear hx35
                        try clear qi35
                        try clear c37
                        try clear c37b0
                        try clear c37b1
                        try clear c42
                        try clear c42b0
                        try clear c42b1
                        try clear c42b2
                        try clear c45
                        try clear c45b0
                        try clear c45b1
                        try clear c46
                        try clear c46b0
                        try clear c46b1
                        try clear c47
                        try clear c47b0
                        try clear c47b1
                        try clear hcz10_0
                        try clear hcz10_1
                        try clear hcz10_2
                        try clear hcz10_3
                        try clear hcz10_4
                        try clear hcz24_0
                        try clear hcz24_1
                        try clear hcz24_2
                        try clear hcz24_3
                        try clear hcz24_4
                        try clear hcz28_0
                        try clear hcz28_1
                        try clear hcz28_2
                        try clear hcz28_3
                        try clear hcz28_4
                        try clear hcz32_0
                        try clear hcz32_1
                        try clear hcz32_2
                        try clear hcz32_3
                        try clear hcz32_4
                        try clear hcz35_0
                        try clear hcz35_1
                        try clear hcz35_2
                        try clear hcz35_3
                        try clear hcz35_4
                        try clear hcz43_0
                        try clear hcz43_1
                        try clear hcz43_2
                        try clear hcz43_3
                        try clear hcz43_4
                        try clear hcz48_0
                        try clear hcz48_1
                        try clear hcz48_2
                        try clear hcz48_3
                        try clear hcz48_4
                        try clear hcz50_0
                        try clear hcz50_1
                        try clear hcz50_2
                        try clear hcz50_3
                        try clear hcz50_4
                        try clear hcz52_0
                        try clear hcz52_1
                        try clear hcz52_2
                        try clear hcz52_3
                        try clear hcz52_4
                        try clear hfz10_0
                        try clear hfz10_1
                        try clear hfz10_2
                        try clear hfz10_3
                        try clear hfz10_4
                        try clear hfz24_0
                        try clear hfz24_1
                        try clear hfz24_2
                        try clear hfz24_3
                        try clear hfz24_4
                        try clear hfz28_0
                        try clear hfz28_1
                        try clear hfz28_2
                        try clear hfz28_3
                        try clear hfz28_4
                        try clear hfz32_0
                        try clear hfz32_1
                        try clear hfz32_2
                        try clear hfz32_3
                        try clear hfz32_4
                        try clear hfz35_0
                        try clear hfz35_1
                        try clear hfz35_2
                        try clear hfz35_3
                        try clear hfz35_4
                        try clear hfz43_0
                        try clear hfz43_1
                        try clear hfz43_2
                        try clear hfz43_3
                        try clear hfz43_4
                        try clear hfz48_0
                        try clear hfz48_1
                        try clear hfz48_2
                        try clear hfz48_3
                        try clear hfz48_4
                        try clear hfz50_0
                        try clear hfz50_1
                        try clear hfz50_2
                        try clear hfz50_3
                        try clear hfz50_4
                        try clear hfz52_0
                        try clear hfz52_1
                        try clear hfz52_2
                        try clear hfz52_3
                        try clear hfz52_4
                        try clear hx331_0
                        try clear hx345_0
                        try clear hx351_0
                        try clear p2
                        try clear p331
                        try clear p345
                        try clear p351
                        try clear q331
                        try clear q345
                        try clear q351
                        obtain ⟨kq, x107_38, rfl, HA, HJ38, HO_13, HO_323003, HO_323004, BK322, HB⟩ := hcut
                        cases kq with
                        | zero => exact absurd HA.out (by simp [remontoirlaw18_PortOrders.j2])
                        | succ kj38 =>
                          have H := HA.out
                          clear HA
                          simp only [remontoirlaw18_PortOrders.j2] at H
                          by_cases c54 : x107_38 = true
                          · subst c54
                            have H1 : (some false) = some true := by rw [if_pos rfl] at H; exact H
                            clear H
                            have H := H1
                            clear H1
                            exact absurd H (by simp)
                          · replace c54 := Bool.eq_false_iff.mpr c54
                            subst c54
                            have H1 : (if t350 = 0 then (if 1 ≤ (x323004_1.length : Int) then (remontoirlaw18_PortOrders.l0 kj38 a0 l1 t347 t346 (wrap64 (x9_1 + 1)) x323000_1 x323001_1 x323002_1 x323003_1 (x323004_1.drop 1)) else (none)) else (remontoirlaw18_PortOrders.l0 kj38 a0 l1 t347 x8_1 (wrap64 (x9_1 + 1)) x323000_1 x323001_1 x323002_1 x323003_1 x323004_1)) = some true := by rw [if_neg (show ¬ (false = true) by decide)] at H; exact H
                            clear H
                            have H := H1
                            clear H1
                            by_cases c55 : t350 = 0
                            · rw [if_pos c55] at H
                              have c55b0 : (t350 == 0) = true := beq_iff_eq.mpr c55
                              have c55b1 : (t350 != 0) = false := bne_eq_false_iff_eq.mpr c55
                              clear c55
                              by_cases c56 : 1 ≤ (x323004_1.length : Int)
                              · rw [if_pos c56] at H
                                have c56b0 := eq_true c56
                                have c56b1 : decide (1 ≤ (x323004_1.length : Int)) = true := decide_eq_true c56
                                clear c56
                                obtain ⟨y352, hy352⟩ : ∃ y_ : List Int, y_ = (x323004_1.drop 1) := ⟨_, rfl⟩
                                replace H : (remontoirlaw18_PortOrders.l0 kj38 a0 l1 t347 t346 (wrap64 (x9_1 + 1)) x323000_1 x323001_1 x323002_1 x323003_1 y352) = some true := by first | (rw [hy352]; with_reducible exact H) | (have H2_ := (Option.bind_some _ _).symm.trans H; rw [hy352]; with_reducible exact H2_) | (have H2_ := (Option.bind_some _ _).symm.trans H; with_reducible exact H2_) | with_reducible exact H | (rw [hy352]; exact H) | exact H
                                have Ny352 := Aside0.mk hy352
                                clear hy352
                                have H' := Aside0.mk H
                                clear H
                                have hcz57_0 : wc.cell? ⟨gb322, 0, none⟩ = some (.int .i64 x323000_1) := (blk_cell BK322.out 0).trans rfl
                                have hcz57_1 : wc.cell? ⟨gb322, 1, none⟩ = some (.int .i64 x323001_1) := (blk_cell BK322.out 1).trans rfl
                                have hcz57_2 : wc.cell? ⟨gb322, 2, none⟩ = some (.int .i64 x323002_1) := (blk_cell BK322.out 2).trans rfl
                                have hcz57_3 : wc.cell? ⟨gb322, 3, none⟩ = some (u323003) := (blk_cell BK322.out 3).trans rfl
                                have hcz57_4 : wc.cell? ⟨gb322, 4, none⟩ = some (u323004) := (blk_cell BK322.out 4).trans rfl
                                have hfz57_0 := blk_frozen BK322.out 0
                                have hfz57_1 := blk_frozen BK322.out 1
                                have hfz57_2 := blk_frozen BK322.out 2
                                have hfz57_3 := blk_frozen BK322.out 3
                                have hfz57_4 := blk_frozen BK322.out 4
                                obtain ⟨Ao59, co59, eo59⟩ := Kd.V_slice HO_323004.out
                                subst eo59
                                have q58 : (1 : Int) ≤ ((x323004_1.length : Int) : Int) := of_decide_eq_true (by first | (with_reducible assumption) | assumption)
                                obtain ⟨i058, hi058, _, hsz58, _⟩ := info_parts info3
                                have hroom58 : x323004_1.length ≤ co59 := (Kd.V_reads' HO_323004.out).2.1
                                have hC58 : Kd.F (Kd.int .i64) _ _ Ao59 x323004_1.length x323004_1 := (Kd.V_at (base := w.heap.size) HO_323004.out).2.2
                                have hcut58 := cut_from (P := Try.prog) 22 3 .i64 Try.underlying22 hi058 1 hsz58 Ao59 x323004_1.length co59 1 (by omega) q58
                                have hr58 := Kd.F_cut (m := (1 : Int).toNat) (c := co59) hC58 (by omega) hroom58
                                obtain ⟨A58, hA58⟩ : ∃ A58, A58 = (if co59 = (1 : Int).toNat then Ao59 else (Ao59 : Option Addr).map (·.add ((1 : Int).toNat * 1))) := ⟨_, rfl⟩
                                obtain ⟨c58, hc58⟩ : ∃ c1, c1 = co59 - (1 : Int).toNat := ⟨_, rfl⟩
                                have hy58 : y352.length = x323004_1.length - (1 : Int).toNat := (by rw [Ny352.out, List.length_drop] <;> omega)
                                rw [show (x323004_1).drop (1 : Int).toNat = y352 from Ny352.out.symm] at hr58
                                replace hr58 : Kd.F (Kd.int .i64) _ _ A58 y352.length y352 := (by rw [hA58]; exact hr58)
                                rw [← hy58, ← hA58, ← hc58] at hcut58
                                have HO356 := Aside0.mk (show Kd.V (Kd.int .i64) 3 _ w.heap.size _ (.slice A58 y352.length c58) y352 from Kd.V_mk (by rw [hy58, hc58]; exact Nat.sub_le_sub_right hroom58 _) hr58)
                                have HC356 := Aside0.mk (show y352.length ≤ c58 from by rw [hy58, hc58]; exact Nat.sub_le_sub_right hroom58 _)
                                have KC58 := Aside0.mk hc58
                                clear hr58 hC58 hroom58 hi058 hsz58 hc58
                                have KY58 := Aside0.mk hy58
                                have KA58 := Aside0.mk hA58
                                clear hy58 hA58
                                replace q58 := eq_true q58
                                go_wp2
                                go_roundg kj38
                                case measure => have := HK1.out; have := HJ10.out; have := HJ38.out; omega
                                case rel => exact ⟨(t347), (t346), (wrap64 (x9_1 + 1)), (x323000_1), (x323001_1), (x323002_1), (x323003_1), (y352), (u323003), (.slice A58 y352.length c58), (by first | rfl | (simp; done) | (simp [*]; done)), (by first | rfl | (simp; done) | (simp [*]; done)), H', ⟨by have := HK1.out; have := HJ10.out; have := HJ38.out; omega⟩, ⟨by (with_reducible repeat (first | apply Kd.V_alloc | apply Kd.V_drewN | apply Kd.V_drew)); exact Kd.V_mono (Kd.V_far (p := ⟨gb322, 4, none⟩) (Kd.V_mono HO_13.out (fun k_ hk => (⟨hk, hk.2⟩ : _ ∧ k_ ≠ gb322))) (fun _ hk => hk.2) (.slice A58 y352.length c58)) (fun _ hk => ⟨hk.1.1, hk.1.2⟩)⟩, ⟨by (with_reducible repeat (first | apply Kd.R_alloc | apply Kd.R_drewN | apply Kd.R_drew)); exact Kd.R_mono (Kd.R_far (p := ⟨gb322, 4, none⟩) (Kd.R_types HO_323003.out BK322.out (by decide)) (fun _ hk => hk.2) (.slice A58 y352.length c58)) (fun _ hk => trivial)⟩, ⟨by (with_reducible repeat (first | apply Kd.V_alloc | apply Kd.V_drewN | apply Kd.V_drew)); exact Kd.V_mono (Kd.V_far (p := ⟨gb322, 4, none⟩) (Kd.V_mono HO356.out (fun k_ hk => (⟨hk, hk.2⟩ : _ ∧ k_ ≠ gb322))) (fun _ hk => hk.2) (.slice A58 y352.length c58)) (fun _ hk => ⟨hk.1.1, hk.1.2⟩)⟩, ⟨by (with_reducible repeat (first | refine blk_drewN ?_ _ | refine blk_drew ?_ | refine blk_alloc ?_ _)); refine blk_put (cs := #[.int .i64 x323000_1, .int .i64 x323001_1, .int .i64 x323002_1, u323003, .slice Ao59 x323004_1.length co59]) ?_ 4 _ rfl; (with_reducible repeat (first | refine blk_drewN ?_ _ | refine blk_drew ?_ | refine blk_alloc ?_ _)); exact BK322.out⟩, ⟨by repeat (first | (with_reducible first | exact HB.out | apply below_alloc | apply pw_below_drewN | apply below_drew1 | refine below_set ?_ GE322.out) | exact HB.out)⟩⟩
                              · rw [if_neg c56] at H
                                exact absurd H (by simp)
                            · rw [if_neg c55] at H
                              have c55b0 : (t350 == 0) = false := beq_eq_false_iff_ne.mpr c55
                              have c55b1 : (t350 != 0) = true := bne_iff_ne.mpr c55
                              have H' := Aside0.mk H
                              clear H
                              go_wp2
                              go_roundg kj38
                              case measure => have := HK1.out; have := HJ10.out; have := HJ38.out; omega
                              case rel => exact ⟨(t347), (x8_1), (wrap64 (x9_1 + 1)), (x323000_1), (x323001_1), (x323002_1), (x323003_1), (x323004_1), (u323003), (u323004), (by first | rfl | (simp; done) | (simp [*]; done)), (by first | rfl | (simp; done) | (simp [*]; done)), H', ⟨by have := HK1.out; have := HJ10.out; have := HJ38.out; omega⟩, ⟨by (with_reducible repeat (first | apply Kd.V_alloc | apply Kd.V_drewN | apply Kd.V_drew)); exact HO_13.out⟩, ⟨by (with_reducible repeat (first | apply Kd.R_alloc | apply Kd.R_drewN | apply Kd.R_drew)); exact HO_323003.out⟩, ⟨by (with_reducible repeat (first | apply Kd.V_alloc | apply Kd.V_drewN | apply Kd.V_drew)); exact HO_323004.out⟩, ⟨by (with_reducible repeat (first | refine blk_drewN ?_ _ | refine blk_drew ?_ | refine blk_alloc ?_ _)); exact BK322.out⟩, ⟨by repeat (first | (with_reducible first | exact HB.out | apply below_alloc | apply pw_below_drewN | apply below_drew1 | refine below_set ?_ GE322.out) | exact HB.out)⟩⟩
                    · rw [if_neg c37] at H
                      have c37b0 : ((rd l1 x9_1) == 1) = false := beq_eq_false_iff_ne.mpr c37
                      have c37b1 : ((rd l1 x9_1) != 1) = true := bne_iff_ne.mpr c37
                      replace H := Option.bind_eq_some_iff.mp H
                      obtain ⟨t357, A600, H⟩ := H
                      replace H : ((remontoirref18_Deliver.f x323000_1 x323001_1 x323002_1 x323003_1 x323004_1).bind fun bt360 => (remontoirlaw18_PortOrders.l0 kj10 a0 l1 t357 x8_1 (wrap64 (x9_1 + 1)) bt360.1 bt360.2.1 bt360.2.2.1 bt360.2.2.2.1 bt360.2.2.2.2)) = some true := H
                      have A60 := Aside0.mk A600
                      clear A600
                      replace H := Option.bind_eq_some_iff.mp H
                      obtain ⟨⟨t360, t361, t362, t363, t366⟩, A610, H⟩ := H
                      replace H : (remontoirlaw18_PortOrders.l0 kj10 a0 l1 t357 x8_1 (wrap64 (x9_1 + 1)) t360 t361 t362 t363 t366) = some true := H
                      have A61 := Aside0.mk A610
                      clear A610
                      have H' := Aside0.mk H
                      clear H
                      have p331 : 0 ≤ (x9_1 : Int) := of_decide_eq_true (by first | (with_reducible assumption) | assumption)
                      have q331 : x9_1 < (l1.length : Int) := of_decide_eq_true (by first | (with_reducible assumption) | assumption)
                      obtain ⟨ad331, e331, hx331_0⟩ := Kd.at_int HR1.out x9_1 p331 q331
                      cases e331
                      replace hx331_0 := (HB.out.cell (World.block_lt_of_cell? w _ hx331_0)).trans hx331_0
                      replace p331 := eq_true p331
                      replace q331 := eq_true q331
                      have p345 : 0 ≤ (x9_1 : Int) := of_decide_eq_true (by first | (with_reducible assumption) | assumption)
                      have q345 : x9_1 < (l1.length : Int) := of_decide_eq_true (by first | (with_reducible assumption) | assumption)
                      obtain ⟨ad345, e345, hx345_0⟩ := Kd.at_int HR1.out x9_1 p345 q345
                      obtain rfl : ad331 = ad345 := (by injection e345)
                      replace hx345_0 := (HB.out.cell (World.block_lt_of_cell? w _ hx345_0)).trans hx345_0
                      replace p345 := eq_true p345
                      replace q345 := eq_true q345
                      obtain ⟨Ao62, co62, eo62⟩ := Kd.V_slice HO_5.out
                      subst eo62
                      go_wp2_with (first | ((with_reducible refine gate_callee (f := 30) rfl ?_); refine goesL_ (some 117) rfl rfl Try.func30 (by kernel_rfl) rfl #[.slice Ao62 x5_1.length co62] rfl (by (try simp only [List.map_toArray, List.map_cons, List.map_nil]); first | done | rfl | (simp only [List.length_drop, List.length_take]; rfl)) ?_; (with_reducible refine (port_Deliver.calls kj10 (fun k_ => (some k_ ≠ (u323003 : Value).ownBlock ∧ k_ ≠ gb322)) _ _ x5_1 t357 _ ?side1 A60.out).mono ?_); (case side1 => exact HO_5.out); rintro e w63 ⟨v358, rfl, ho0, hb⟩; refine ⟨_, rfl, ?_⟩; have n0_ := Aside0.mk (Kd.V_below (by (with_reducible repeat (first | apply Kd.V_alloc | apply Kd.V_drewN | apply Kd.V_drew)); exact HO_5.out) hb); have n1_ := Aside0.mk (Kd.R_below (by (with_reducible repeat (first | apply Kd.R_alloc | apply Kd.R_drewN | apply Kd.R_drew)); exact HO_323003.out) hb); have n2_ := Aside0.mk (Kd.V_below (by (with_reducible repeat (first | apply Kd.V_alloc | apply Kd.V_drewN | apply Kd.V_drew)); exact HO_323004.out) hb); have n3_ := Aside0.mk (Kd.V_lower (Kd.V_mono (ok' := fun k_ => some k_ ≠ (u323003 : Value).ownBlock ∧ k_ ≠ gb322) ho0 (fun k_ hk_ => ⟨Or.elim hk_ (fun hs_ => hs_.1) (fun hn_ => (Kd.fresh' (Kd.R_lt (by (with_reducible repeat (first | apply Kd.R_alloc | apply Kd.R_drewN | apply Kd.R_drew)); exact HO_323003.out)) k_ hn_)), Or.elim hk_ (fun hs_ => hs_.2) (fun hn_ => (Kd.freshB (g := gb322) (o := .cells #[.int .i64 x323000_1, .int .i64 x323001_1, .int .i64 x323002_1, u323003, u323004] 63 (0, 0)) (by (with_reducible repeat (first | refine blk_drewN ?_ _ | refine blk_drew ?_ | refine blk_alloc ?_ _)); exact BK322.out) k_ hn_))⟩)) (below_size (by repeat (first | (with_reducible first | exact HB.out | apply below_alloc | apply pw_below_drewN | apply below_drew1 | refine below_set ?_ GE322.out) | exact HB.out)))); have n4_ := Aside0.mk (blk_below (g := gb322) (o := .cells #[.int .i64 x323000_1, .int .i64 x323001_1, .int .i64 x323002_1, u323003, u323004] 63 (0, 0)) (by (with_reducible repeat (first | refine blk_drewN ?_ _ | refine blk_drew ?_ | refine blk_alloc ?_ _)); exact BK322.out) hb); have n5_ := Aside0.mk (below_step (by repeat (first | (with_reducible first | exact HB.out | apply below_alloc | apply pw_below_drewN | apply below_drew1 | refine below_set ?_ GE322.out) | exact HB.out)) hb); clear HO_5; clear HO_323003; clear HO_323004; clear BK322; clear HB; have HO_5 := n0_; have HO_323003 := n1_; have HO_323004 := n2_; have HO359 := n3_; have BK322 := n4_; have HB := n5_; clear n0_ n1_ n2_ n3_ n4_ n5_; (try clear hb); (try clear hb2); (try clear hk); (try clear hi); (try clear ho0); have hcz64_0 : w63.cell? ⟨gb322, 0, none⟩ = some (.int .i64 x323000_1) := (blk_cell BK322.out 0).trans rfl; have hcz64_1 : w63.cell? ⟨gb322, 1, none⟩ = some (.int .i64 x323001_1) := (blk_cell BK322.out 1).trans rfl; have hcz64_2 : w63.cell? ⟨gb322, 2, none⟩ = some (.int .i64 x323002_1) := (blk_cell BK322.out 2).trans rfl; have hcz64_3 : w63.cell? ⟨gb322, 3, none⟩ = some (u323003) := (blk_cell BK322.out 3).trans rfl; have hcz64_4 : w63.cell? ⟨gb322, 4, none⟩ = some (u323004) := (blk_cell BK322.out 4).trans rfl; have hfz64_0 := blk_frozen BK322.out 0; have hfz64_1 := blk_frozen BK322.out 1; have hfz64_2 := blk_frozen BK322.out 2; have hfz64_3 := blk_frozen BK322.out 3; have hfz64_4 := blk_frozen BK322.out 4; obtain ⟨Ao65, co65, eo65⟩ := Kd.R_slice HO_323003.out; subst eo65; obtain ⟨Ao66, co66, eo66⟩ := Kd.V_slice HO_323004.out; subst eo66) | ((with_reducible refine gate_callee (f := 40) rfl ?_); refine goesL_ (some 119) rfl rfl Try.func40 (by kernel_rfl) rfl #[.agg #[.int .i64 x323000_1, .int .i64 x323001_1, .int .i64 x323002_1, .slice Ao65 x323003_1.length co65, .slice Ao66 x323004_1.length co66]] rfl (by (try simp only [List.map_toArray, List.map_cons, List.map_nil]); first | done | rfl | (simp only [List.length_drop, List.length_take]; rfl)) ?_; (with_reducible refine (remontoirref18_Deliver.calls x323000_1 x323001_1 x323002_1 _ _ x323003_1 _ _ x323004_1 t360 t361 t362 t363 t366 _ ?side1 ?side2 ?side3 ?side4 A61.out).mono ?_); (case side1 => repeat (first | exact (Kd.R_reads' HO_323003.out).2.2 | (with_reducible refine Kd.C_alloc ?_ _) | (with_reducible refine Kd.C_drewN ?_ _) | (with_reducible refine Kd.C_drew ?_))); (case side2 => exact (Kd.R_reads' HO_323003.out).2.1); (case side3 => repeat (first | exact (Kd.V_reads' HO_323004.out).2.2 | (with_reducible refine Kd.C_alloc ?_ _) | (with_reducible refine Kd.C_drewN ?_ _) | (with_reducible refine Kd.C_drew ?_))); (case side4 => exact (Kd.V_reads' HO_323004.out).2.1); rintro e w67 ⟨v364, v367, rfl, ho0, ho1, hb⟩; refine ⟨_, rfl, ?_⟩; have n0_ := Aside0.mk (Kd.V_elder' (by (with_reducible repeat (first | apply Kd.V_alloc | apply Kd.V_drewN | apply Kd.V_drew)); exact HO_5.out) (Kd.R_base ho0) hb); have n1_ := Aside0.mk (Kd.R_elder' (by (with_reducible repeat (first | apply Kd.R_alloc | apply Kd.R_drewN | apply Kd.R_drew)); exact HO_323003.out) (Kd.R_base ho0) hb); have n2_ := Aside0.mk (Kd.V_elder' (by (with_reducible repeat (first | apply Kd.V_alloc | apply Kd.V_drewN | apply Kd.V_drew)); exact HO_323004.out) (Kd.R_base ho0) hb); have n3_ := Aside0.mk (Kd.V_elder' (by (with_reducible repeat (first | apply Kd.V_alloc | apply Kd.V_drewN | apply Kd.V_drew)); exact HO359.out) (Kd.R_base ho0) hb); have n4_ := Aside0.mk (Kd.R_lower (Kd.R_new' (Kd.R_mono (ok' := fun k_ => True) ho0 (fun _ hk_ => trivial)) (Kd.R_lt (by (with_reducible repeat (first | apply Kd.R_alloc | apply Kd.R_drewN | apply Kd.R_drew)); exact HO_323003.out))) (below_size (by repeat (first | (with_reducible first | exact HB.out | apply below_alloc | apply pw_below_drewN | apply below_drew1 | refine below_set ?_ GE322.out) | exact HB.out)))); have n5_ := Aside0.mk (Kd.V_lower (Kd.V_mono (ok' := fun k_ => some k_ ≠ (v364 : Value).ownBlock ∧ some k_ ≠ (.slice Ao65 x323003_1.length co65 : Value).ownBlock ∧ k_ ≠ gb322) ho1 (fun k_ hk_ => ⟨hk_.2, (Kd.fresh' (Kd.R_lt (by (with_reducible repeat (first | apply Kd.R_alloc | apply Kd.R_drewN | apply Kd.R_drew)); exact HO_323003.out)) k_ hk_.1), (Kd.freshB (g := gb322) (o := .cells #[.int .i64 x323000_1, .int .i64 x323001_1, .int .i64 x323002_1, .slice Ao65 x323003_1.length co65, .slice Ao66 x323004_1.length co66] 63 (0, 0)) (by (with_reducible repeat (first | refine blk_drewN ?_ _ | refine blk_drew ?_ | refine blk_alloc ?_ _)); exact BK322.out) k_ hk_.1)⟩)) (below_size (by repeat (first | (with_reducible first | exact HB.out | apply below_alloc | apply pw_below_drewN | apply below_drew1 | refine below_set ?_ GE322.out) | exact HB.out)))); have n6_ := Aside0.mk (blk_below (g := gb322) (o := .cells #[.int .i64 x323000_1, .int .i64 x323001_1, .int .i64 x323002_1, .slice Ao65 x323003_1.length co65, .slice Ao66 x323004_1.length co66] 63 (0, 0)) (by (with_reducible repeat (first | refine blk_drewN ?_ _ | refine blk_drew ?_ | refine blk_alloc ?_ _)); exact BK322.out) hb); have n7_ := Aside0.mk (below_step (by repeat (first | (with_reducible first | exact HB.out | apply below_alloc | apply pw_below_drewN | apply below_drew1 | refine below_set ?_ GE322.out) | exact HB.out)) hb); clear HO_5; clear HO_323003; clear HO_323004; clear HO359; clear BK322; clear HB; have HO_5 := n0_; have HO_323003 := n1_; have HO_323004 := n2_; have HO359 := n3_; have HO365 := n4_; have HO368 := n5_; have BK322 := n6_; have HB := n7_; clear n0_ n1_ n2_ n3_ n4_ n5_ n6_ n7_; (try clear hb); (try clear hb2); (try clear hk); (try clear hi); (try clear ho0); (try clear ho1); have hcz68_0 : w67.cell? ⟨gb322, 0, none⟩ = some (.int .i64 x323000_1) := (blk_cell BK322.out 0).trans rfl; have hcz68_1 : w67.cell? ⟨gb322, 1, none⟩ = some (.int .i64 x323001_1) := (blk_cell BK322.out 1).trans rfl; have hcz68_2 : w67.cell? ⟨gb322, 2, none⟩ = some (.int .i64 x323002_1) := (blk_cell BK322.out 2).trans rfl; have hcz68_3 : w67.cell? ⟨gb322, 3, none⟩ = some (.slice Ao65 x323003_1.length co65) := (blk_cell BK322.out 3).trans rfl; have hcz68_4 : w67.cell? ⟨gb322, 4, none⟩ = some (.slice Ao66 x323004_1.length co66) := (blk_cell BK322.out 4).trans rfl; have hfz68_0 := blk_frozen BK322.out 0; have hfz68_1 := blk_frozen BK322.out 1; have hfz68_2 := blk_frozen BK322.out 2; have hfz68_3 := blk_frozen BK322.out 3; have hfz68_4 := blk_frozen BK322.out 4; obtain ⟨Ao69, co69, eo69⟩ := Kd.R_slice HO365.out; subst eo69; obtain ⟨Ao70, co70, eo70⟩ := Kd.V_slice HO368.out; subst eo70))
                      go_roundg kj10
                      case measure => have := HK1.out; have := HJ10.out; omega
                      case rel => exact ⟨(t357), (x8_1), (wrap64 (x9_1 + 1)), (t360), (t361), (t362), (t363), (t366), (.slice Ao69 t363.length co69), (.slice Ao70 t366.length co70), (by first | rfl | (simp; done) | (simp [*]; done)), (by first | rfl | (simp; done) | (simp [*]; done)), H', ⟨by have := HK1.out; have := HJ10.out; omega⟩, ⟨by (with_reducible repeat (first | apply Kd.V_alloc | apply Kd.V_drewN | apply Kd.V_drew)); exact Kd.V_mono (Kd.V_far (p := ⟨gb322, 4, none⟩) (Kd.V_far (p := ⟨gb322, 3, none⟩) (Kd.V_far (p := ⟨gb322, 2, none⟩) (Kd.V_far (p := ⟨gb322, 1, none⟩) (Kd.V_far (p := ⟨gb322, 0, none⟩) (Kd.V_mono HO359.out (fun k_ hk => (⟨hk, hk.1.2⟩ : _ ∧ k_ ≠ gb322))) (fun _ hk => hk.2) (.int .i64 t360)) (fun _ hk => hk.2) (.int .i64 t361)) (fun _ hk => hk.2) (.int .i64 t362)) (fun _ hk => hk.2) (.slice Ao69 t363.length co69)) (fun _ hk => hk.2) (.slice Ao70 t366.length co70)) (fun _ hk => ⟨hk.1.2, hk.1.1.2⟩)⟩, ⟨by (with_reducible repeat (first | apply Kd.R_alloc | apply Kd.R_drewN | apply Kd.R_drew)); exact Kd.R_mono (Kd.R_far (p := ⟨gb322, 4, none⟩) (Kd.R_far (p := ⟨gb322, 3, none⟩) (Kd.R_far (p := ⟨gb322, 2, none⟩) (Kd.R_far (p := ⟨gb322, 1, none⟩) (Kd.R_far (p := ⟨gb322, 0, none⟩) (Kd.R_types HO365.out BK322.out (by decide)) (fun _ hk => hk.2) (.int .i64 t360)) (fun _ hk => hk.2) (.int .i64 t361)) (fun _ hk => hk.2) (.int .i64 t362)) (fun _ hk => hk.2) (.slice Ao69 t363.length co69)) (fun _ hk => hk.2) (.slice Ao70 t366.length co70)) (fun _ hk => trivial)⟩, ⟨by (with_reducible repeat (first | apply Kd.V_alloc | apply Kd.V_drewN | apply Kd.V_drew)); exact Kd.V_mono (Kd.V_far (p := ⟨gb322, 4, none⟩) (Kd.V_far (p := ⟨gb322, 3, none⟩) (Kd.V_far (p := ⟨gb322, 2, none⟩) (Kd.V_far (p := ⟨gb322, 1, none⟩) (Kd.V_far (p := ⟨gb322, 0, none⟩) (Kd.V_mono HO368.out (fun k_ hk => (⟨hk, hk.2.2⟩ : _ ∧ k_ ≠ gb322))) (fun _ hk => hk.2) (.int .i64 t360)) (fun _ hk => hk.2) (.int .i64 t361)) (fun _ hk => hk.2) (.int .i64 t362)) (fun _ hk => hk.2) (.slice Ao69 t363.length co69)) (fun _ hk => hk.2) (.slice Ao70 t366.length co70)) (fun _ hk => ⟨hk.1.1, hk.1.2.2⟩)⟩, ⟨by (with_reducible repeat (first | refine blk_drewN ?_ _ | refine blk_drew ?_ | refine blk_alloc ?_ _)); refine blk_put (cs := #[.int .i64 t360, .int .i64 t361, .int .i64 t362, .slice Ao69 t363.length co69, .slice Ao66 x323004_1.length co66]) ?_ 4 _ rfl; (with_reducible repeat (first | refine blk_drewN ?_ _ | refine blk_drew ?_ | refine blk_alloc ?_ _)); refine blk_put (cs := #[.int .i64 t360, .int .i64 t361, .int .i64 t362, .slice Ao65 x323003_1.length co65, .slice Ao66 x323004_1.length co66]) ?_ 3 _ rfl; (with_reducible repeat (first | refine blk_drewN ?_ _ | refine blk_drew ?_ | refine blk_alloc ?_ _)); refine blk_put (cs := #[.int .i64 t360, .int .i64 t361, .int .i64 x323002_1, .slice Ao65 x323003_1.length co65, .slice Ao66 x323004_1.length co66]) ?_ 2 _ rfl; (with_reducible repeat (first | refine blk_drewN ?_ _ | refine blk_drew ?_ | refine blk_alloc ?_ _)); refine blk_put (cs := #[.int .i64 t360, .int .i64 x323001_1, .int .i64 x323002_1, .slice Ao65 x323003_1.length co65, .slice Ao66 x323004_1.length co66]) ?_ 1 _ rfl; (with_reducible repeat (first | refine blk_drewN ?_ _ | refine blk_drew ?_ | refine blk_alloc ?_ _)); refine blk_put (cs := #[.int .i64 x323000_1, .int .i64 x323001_1, .int .i64 x323002_1, .slice Ao65 x323003_1.length co65, .slice Ao66 x323004_1.length co66]) ?_ 0 _ rfl; (with_reducible repeat (first | refine blk_drewN ?_ _ | refine blk_drew ?_ | refine blk_alloc ?_ _)); exact BK322.out⟩, ⟨by repeat (first | (with_reducible first | exact HB.out | apply below_alloc | apply pw_below_drewN | apply below_drew1 | refine below_set ?_ GE322.out) | exact HB.out)⟩⟩
                · rw [if_neg c15] at H
                  exact absurd H (by simp)
              · rw [if_neg c14] at H
                exact absurd H (by simp)
            · replace c13 := Bool.eq_false_iff.mpr c13
              subst c13
              have H1 : ((remontoirlaw18_As.f kj10 x5_1).bind fun t323 => ((remontoirlaw18_Same.f kj10 t323 (([(⟨(⟨x323000_1, x323001_1, x323002_1⟩ : S51), x323003_1, x323004_1⟩ : S63)] : List (S63)))).bind fun t329 => (if t329 = true then ((remontoirlaw18_knows.f kj10).bind fun t330 => (some t330)) else (some false)))) = some true := by rw [if_neg (show ¬ (false = true) by decide)] at H; exact H
              clear H
              have H := H1
              clear H1
              replace H := Option.bind_eq_some_iff.mp H
              obtain ⟨t323, A710, H⟩ := H
              replace H : ((remontoirlaw18_Same.f kj10 t323 (([(⟨(⟨x323000_1, x323001_1, x323002_1⟩ : S51), x323003_1, x323004_1⟩ : S63)] : List (S63)))).bind fun t329 => (if t329 = true then ((remontoirlaw18_knows.f kj10).bind fun t330 => (some t330)) else (some false))) = some true := H
              have A71 := Aside0.mk A710
              clear A710
              obtain ⟨y326, hy326⟩ : ∃ y_ : List (S63), y_ = (([(⟨(⟨x323000_1, x323001_1, x323002_1⟩ : S51), x323003_1, x323004_1⟩ : S63)] : List (S63))) := ⟨_, rfl⟩
              replace H : ((remontoirlaw18_Same.f kj10 t323 y326).bind fun t329 => (if t329 = true then ((remontoirlaw18_knows.f kj10).bind fun t330 => (some t330)) else (some false))) = some true := by first | (rw [hy326]; with_reducible exact H) | (have H2_ := (Option.bind_some _ _).symm.trans H; rw [hy326]; with_reducible exact H2_) | (have H2_ := (Option.bind_some _ _).symm.trans H; with_reducible exact H2_) | with_reducible exact H | (rw [hy326]; exact H) | exact H
              have Ny326 := Aside0.mk hy326
              clear hy326
              replace H := Option.bind_eq_some_iff.mp H
              obtain ⟨t329, A720, H⟩ := H
              replace H : (if t329 = true then ((remontoirlaw18_knows.f kj10).bind fun t330 => (some t330)) else (some false)) = some true := H
              have A72 := Aside0.mk A720
              clear A720
              by_cases c73 : t329 = true
              · subst c73
                have H1 : ((remontoirlaw18_knows.f kj10).bind fun t330 => (some t330)) = some true := by rw [if_pos rfl] at H; exact H
                clear H
                have H := H1
                clear H1
                replace H := Option.bind_eq_some_iff.mp H
                obtain ⟨t330, A740, H⟩ := H
                replace H : (some t330) = some true := H
                have A74 := Aside0.mk A740
                clear A740
                have HR_ := Aside0.mk (Option.some.inj H)
                clear H
                obtain ⟨Ao75, co75, eo75⟩ := Kd.V_slice HO_5.out
                subst eo75
                try go_wp2
                have n0_ := Aside0.mk (Kd.V_drew HO_5.out)
                have n1_ := Aside0.mk (Kd.R_drew HO_323003.out)
                have n2_ := Aside0.mk (Kd.V_drew HO_323004.out)
                have n3_ := Aside0.mk (blk_drew BK322.out)
                have n4_ := Aside0.mk (below_drew1 HB.out)
                clear HO_5
                clear HO_323003
                clear HO_323004
                clear BK322
                clear HB
                have HO_5 := n0_
                have HO_323003 := n1_
                have HO_323004 := n2_
                have BK322 := n3_
                have HB := n4_
                clear n0_ n1_ n2_ n3_ n4_
                obtain ⟨Ao78, co78, eo78⟩ := Kd.R_slice HO_323003.out
                (first | subst eo78 | (injection eo78 with f1_ f2_ f3_; have f4_ := f1_.symm; have f5_ := f3_.symm; clear f1_ f2_ f3_; subst f4_; subst f5_))
                obtain ⟨Ao79, co79, eo79⟩ := Kd.V_slice HO_323004.out
                (first | subst eo79 | (injection eo79 with f1_ f2_ f3_; have f4_ := f1_.symm; have f5_ := f3_.symm; clear f1_ f2_ f3_; subst f4_; subst f5_))
                refine start_ (n := 9) (S := fun w' => w'.cell? ⟨gb322, 0, none⟩ = some (.int .i64 x323000_1) ∧ w'.cell? ⟨gb322, 1, none⟩ = some (.int .i64 x323001_1) ∧ w'.cell? ⟨gb322, 2, none⟩ = some (.int .i64 x323002_1) ∧ w'.cell? ⟨gb322, 3, none⟩ = some (.slice Ao78 x323003_1.length co78) ∧ w'.cell? ⟨gb322, 4, none⟩ = some (.slice Ao79 x323004_1.length co79)) (ds := []) #[false, false, false, false, false, false, false, false, false] (by kernel_rfl) rfl rfl ⟨(blk_cell BK322.out 0).trans rfl, (blk_cell BK322.out 1).trans rfl, (blk_cell BK322.out 2).trans rfl, (blk_cell BK322.out 3).trans rfl, (blk_cell BK322.out 4).trans rfl⟩ (fun hHeld => ?_); refine with_tabW remontoirlaw18_PortOrders.tab26 remontoirlaw18_PortOrders.bits26 (fun HT_ HW_ => ?_)
                generalize wc.drew = w76 at HO_5 HO_323003 HO_323004 BK322 HB hHeld ⊢
                refine pure_ (i := 0) (N := some 120) (v := ?_) (a' := ?_) #[true, false, false, false, false, false, false, false, false] rfl rfl (any_of HT_.out (by kernel_rfl)) (fun _ _ _ h => h) (Or.inl ⟨by rfl, ?_⟩) ?_ ?_
                rotate_left
                · intro w'
                  go_simp
                  with_reducible rfl
                rotate_left
                · simp only [Act.put, List.setIfInBounds_toArray, List.set_cons_zero, List.set_cons_succ, i64_w, i32_w]
                  rfl
                refine take_ (i := 2) (N := some 122) (v := ?_) (a' := ?_) #[true, false, true, false, false, false, false, false, false] rfl rfl (take_ofW HT_.out HW_.out (by kernel_rfl)) (fun _ _ _ h => h) (Or.inl ⟨by rfl, ?_⟩) hHeld ?_ ?_
                rotate_left
                · rintro w' ⟨s0, s1, s2, s3, s4⟩
                  go_simp
                  with_reducible rfl
                rotate_left
                · simp only [Act.put, List.setIfInBounds_toArray, List.set_cons_zero, List.set_cons_succ, i64_w, i32_w]
                  rfl
                refine join_ (σ := Value × Value) 5 #[true, true, true, true, false, false, false, false, false] (fun s_ => [(121, s_.1), (123, s_.2)]) (fun s_ w' => (w'.cell? ⟨gb322, 0, none⟩ = some (.int .i64 x323000_1) ∧ w'.cell? ⟨gb322, 1, none⟩ = some (.int .i64 x323001_1) ∧ w'.cell? ⟨gb322, 2, none⟩ = some (.int .i64 x323002_1) ∧ w'.cell? ⟨gb322, 3, none⟩ = some (.slice Ao78 x323003_1.length co78) ∧ w'.cell? ⟨gb322, 4, none⟩ = some (.slice Ao79 x323004_1.length co79)) ∧ (Kd.N k63 63 w' w.heap.size (fun k_ => some k_ ≠ (s_.2 : Value).ownBlock ∧ k_ ≠ gb322) s_.1 t323) ∧ (Kd.N k63 63 w' w.heap.size (fun k_ => some k_ ≠ (s_.1 : Value).ownBlock ∧ k_ ≠ gb322) s_.2 y326) ∧ (Kd.V (Kd.int .i64) 3 w' w.heap.size (fun k_ => some k_ ≠ (s_.1 : Value).ownBlock ∧ some k_ ≠ (s_.2 : Value).ownBlock ∧ k_ ≠ gb322) (.slice Ao79 x323004_1.length co79) x323004_1) ∧ (Kd.V k76 76 w' w.heap.size (fun k_ => some k_ ≠ (s_.1 : Value).ownBlock ∧ some k_ ≠ (s_.2 : Value).ownBlock ∧ k_ ≠ gb322) (.slice Ao75 x5_1.length co75) x5_1) ∧ (w'.heap[gb322]? = some (.cells #[.int .i64 x323000_1, .int .i64 x323001_1, .int .i64 x323002_1, .slice Ao78 x323003_1.length co78, .slice Ao79 x323004_1.length co79] 63 (0, 0))) ∧ (Below w.heap.size w w')) ?_ ?_
                rotate_left
                · intro hCont
                  refine two_ (i := 1) (j := 3) (Ni := some 121) (Nj := some 123) #[true, true, true, false, false, false, false, false, false] #[true, false, true, true, false, false, false, false, false] rfl rfl rfl rfl (two_of HT_.out (by kernel_rfl)) (by decide) (by decide) (fun K hK => ?_) (fun K hK => ?_)
                  · skip
                    refine goes_ Try.func35 (by kernel_rfl) rfl #[.slice Ao75 x5_1.length co75] (by rfl) rfl rfl (by (try simp only [List.map_toArray, List.map_cons, List.map_nil]); first | done | rfl | (simp only [List.length_drop, List.length_take]; rfl)) ?_
                    with_reducible refine (remontoirlaw18_As.calls kj10 _ _ x5_1 t323 _ ?side1 ?side2 A71.out).mono ?_
                    (case side1 => repeat (first | exact (Kd.V_reads' HO_5.out).2.2 | (with_reducible refine Kd.C_alloc ?_ _) | (with_reducible refine Kd.C_drewN ?_ _) | (with_reducible refine Kd.C_drew ?_)))
                    (case side2 => exact (Kd.V_reads' HO_5.out).2.1)
                    rintro e w77 ⟨v324, rfl, ho0, hb⟩
                    refine ⟨_, rfl, ?_⟩
                    have n0_ := Aside0.mk (Kd.V_elder' (by (with_reducible repeat (first | apply Kd.V_alloc | apply Kd.V_drewN | apply Kd.V_drew)); exact HO_5.out) (by first | exact Kd.N_base ho0 | exact Kd.N_base (Kd.S_N ho0)) hb)
                    have n1_ := Aside0.mk (Kd.R_below (by (with_reducible repeat (first | apply Kd.R_alloc | apply Kd.R_drewN | apply Kd.R_drew)); exact HO_323003.out) hb)
                    have n2_ := Aside0.mk (Kd.V_elder' (by (with_reducible repeat (first | apply Kd.V_alloc | apply Kd.V_drewN | apply Kd.V_drew)); exact HO_323004.out) (by first | exact Kd.N_base ho0 | exact Kd.N_base (Kd.S_N ho0)) hb)
                    have n3_ := Aside0.mk (Kd.N_lower (Kd.N_mono (ok' := fun k_ => some k_ ≠ (.slice Ao78 x323003_1.length co78 : Value).ownBlock ∧ k_ ≠ gb322) (Kd.S_N (Kd.S_bound ho0)) (fun k_ hk_ => ⟨(Kd.fresh' (Kd.R_lt (by (with_reducible repeat (first | apply Kd.R_alloc | apply Kd.R_drewN | apply Kd.R_drew)); exact HO_323003.out)) k_ hk_.2.1), (Kd.freshB (g := gb322) (o := .cells #[.int .i64 x323000_1, .int .i64 x323001_1, .int .i64 x323002_1, (.slice Ao78 x323003_1.length co78), (.slice Ao79 x323004_1.length co79)] 63 (0, 0)) (by (with_reducible repeat (first | refine blk_drewN ?_ _ | refine blk_drew ?_ | refine blk_alloc ?_ _)); exact BK322.out) k_ hk_.2.1)⟩)) (below_size (by repeat (first | (with_reducible first | exact HB.out | apply below_alloc | apply pw_below_drewN | apply below_drew1 | refine below_set ?_ GE322.out) | exact HB.out))))
                    have n4_ := Aside0.mk (blk_below (g := gb322) (o := .cells #[.int .i64 x323000_1, .int .i64 x323001_1, .int .i64 x323002_1, (.slice Ao78 x323003_1.length co78), (.slice Ao79 x323004_1.length co79)] 63 (0, 0)) (by (with_reducible repeat (first | refine blk_drewN ?_ _ | refine blk_drew ?_ | refine blk_alloc ?_ _)); exact BK322.out) hb)
                    have n5_ := Aside0.mk (below_step (by repeat (first | (with_reducible first | exact HB.out | apply below_alloc | apply pw_below_drewN | apply below_drew1 | refine below_set ?_ GE322.out) | exact HB.out)) hb)
                    clear HO_5
                    clear HO_323003
                    clear HO_323004
                    clear BK322
                    clear HB
                    have HO_5 := n0_
                    have HO_323003 := n1_
                    have HO_323004 := n2_
                    have HO325 := n3_
                    have BK322 := n4_
                    have HB := n5_
                    clear n0_ n1_ n2_ n3_ n4_ n5_
                    (try clear hb)
                    (try clear hb2)
                    (try clear hk)
                    (try clear hi)
                    (try clear ho0)
                    refine hK.out _ _ ⟨(blk_cell BK322.out 0).trans rfl, (blk_cell BK322.out 1).trans rfl, (blk_cell BK322.out 2).trans rfl, (blk_cell BK322.out 3).trans rfl, (blk_cell BK322.out 4).trans rfl⟩ (fun hHeld => ?_)
                    clear hK K
                    refine norm_ (a' := ?_) ?_ ?_
                    rotate_left
                    · show Act.put _ (some 121) _ = _
                      simp only [Act.put, List.setIfInBounds_toArray, List.set_cons_zero, List.set_cons_succ, i64_w, i32_w]
                      rfl
                    refine one_ (i := 3) (N := some 123) #[true, true, true, true, false, false, false, false, false] rfl rfl (one_of HT_.out (by kernel_rfl)) (by decide) (fun K hK => ?_)
                    refine Kd.N_lit_step k63 _ 63 ?hg (N' := 123) ?hd (xs := ([(⟨(⟨x323000_1, x323001_1, x323002_1⟩ : S51), x323003_1, x323004_1⟩ : S63)] : List (S63))) (inner := [.int .i64 x323000_1, .int .i64 x323001_1, .int .i64 x323002_1, .slice Ao78 x323003_1.length co78, .slice Ao79 x323004_1.length co79]) (ok := (fun k_ => some k_ ≠ (v324 : Value).ownBlock ∧ k_ ≠ gb322)) (okp := (fun k_ => some k_ ≠ (v324 : Value).ownBlock ∧ k_ ≠ gb322)) ?hr ?hp (fun _ hk => hk) ((show ∀ k_, w77.heap.size ≤ k_ → (fun k_ => some k_ ≠ (v324 : Value).ownBlock ∧ k_ ≠ gb322) k_ from fun k_ hk => ⟨Kd.fresh' (Kd.N_lt (by (with_reducible repeat (first | apply Kd.N_alloc | apply Kd.N_drewN | apply Kd.N_drew)); exact HO325.out)) k_ hk, Kd.freshB (g := gb322) (o := .cells #[.int .i64 x323000_1, .int .i64 x323001_1, .int .i64 x323002_1, .slice Ao78 x323003_1.length co78, .slice Ao79 x323004_1.length co79] 63 (0, 0)) (by (with_reducible repeat (first | refine blk_drewN ?_ _ | refine blk_drew ?_ | refine blk_alloc ?_ _)); exact BK322.out) k_ hk⟩) _ (Nat.le_refl _)) (Below.refl _ _) (Nat.le_refl _) (by simp) ?_; (case hd => rfl); (case hg => rfl); (case hr => first | (go_simp; done) | (go_simp; rfl)); (case hp => exact (Reps.c5 (show Kd.FK k63 _ _ (⟨(⟨x323000_1, x323001_1, x323002_1⟩ : S51), x323003_1, x323004_1⟩ : S63) [.int .i64 x323000_1, .int .i64 x323001_1, .int .i64 x323002_1, .slice Ao78 x323003_1.length co78, .slice Ao79 x323004_1.length co79] from (k63_mkF _ _ (⟨(⟨x323000_1, x323001_1, x323002_1⟩ : S51), x323003_1, x323004_1⟩ : S63) (Kd.R_reads' (Kd.R_mono (ok' := (fun k_ => some k_ ≠ (v324 : Value).ownBlock ∧ k_ ≠ gb322)) (Kd.R_types (Kd.R_apart' (HO_323003.out) (Kd.N_typed HO325.out) (by decide)) BK322.out (by decide)) (fun k_ hk => ⟨hk.1.2, hk.2⟩))).2.1 (Kd.R_F (Kd.R_mono (ok' := (fun k_ => some k_ ≠ (v324 : Value).ownBlock ∧ k_ ≠ gb322)) (Kd.R_types (Kd.R_apart' (HO_323003.out) (Kd.N_typed HO325.out) (by decide)) BK322.out (by decide)) (fun k_ hk => ⟨hk.1.2, hk.2⟩))) (Kd.V_reads' (Kd.V_mono (ok' := (fun k_ => some k_ ≠ (v324 : Value).ownBlock ∧ k_ ≠ gb322)) (HO_323004.out) (fun k_ hk => ⟨hk.2, hk.1.2⟩))).2.1 (Kd.V_F (Kd.V_mono (ok' := (fun k_ => some k_ ≠ (v324 : Value).ownBlock ∧ k_ ≠ gb322)) (HO_323004.out) (fun k_ hk => ⟨hk.2, hk.1.2⟩))))) (Reps.none _ _)))
                    intro v327 w80 ho81 hb hg_ hnew_
                    clear hg_ hnew_
                    (first | rw [← Ny326.out] at ho81 | (simp only [Int.reduceToNat] at ho81; rw [← Ny326.out] at ho81))
                    have n0_ := Aside0.mk (Kd.V_elder' (by (with_reducible repeat (first | apply Kd.V_alloc | apply Kd.V_drewN | apply Kd.V_drew)); exact HO_5.out) (by first | exact Kd.N_base ho81 | exact Kd.N_base (Kd.S_N ho81)) hb)
                    have n1_ := Aside0.mk (Kd.V_elder' (by (with_reducible repeat (first | apply Kd.V_alloc | apply Kd.V_drewN | apply Kd.V_drew)); exact HO_323004.out) (by first | exact Kd.N_base ho81 | exact Kd.N_base (Kd.S_N ho81)) hb)
                    have n2_ := Aside0.mk (Kd.N_elder' (by (with_reducible repeat (first | apply Kd.N_alloc | apply Kd.N_drewN | apply Kd.N_drew)); exact HO325.out) (by first | exact Kd.N_base ho81 | exact Kd.N_base (Kd.S_N ho81)) hb)
                    have n3_ := Aside0.mk (Kd.N_lower ho81 (below_size (by repeat (first | (with_reducible first | exact HB.out | apply below_alloc | apply pw_below_drewN | apply below_drew1 | refine below_set ?_ GE322.out) | exact HB.out))))
                    have n4_ := Aside0.mk (blk_below (g := gb322) (o := .cells #[.int .i64 x323000_1, .int .i64 x323001_1, .int .i64 x323002_1, .slice Ao78 x323003_1.length co78, .slice Ao79 x323004_1.length co79] 63 (0, 0)) (by (with_reducible repeat (first | refine blk_drewN ?_ _ | refine blk_drew ?_ | refine blk_alloc ?_ _)); exact BK322.out) hb)
                    have n5_ := Aside0.mk (below_step (by repeat (first | (with_reducible first | exact HB.out | apply below_alloc | apply pw_below_drewN | apply below_drew1 | refine below_set ?_ GE322.out) | exact HB.out)) hb)
                    clear HO_5
                    clear HO_323004
                    clear HO325
                    clear BK322
                    clear HB
                    clear HO_323003
                    have HO_5 := n0_
                    have HO_323004 := n1_
                    have HO325 := n2_
                    have HO328 := n3_
                    have BK322 := n4_
                    have HB := n5_
                    clear n0_ n1_ n2_ n3_ n4_ n5_
                    clear hb ho81
                    refine hK.out _ _ ⟨(blk_cell BK322.out 0).trans rfl, (blk_cell BK322.out 1).trans rfl, (blk_cell BK322.out 2).trans rfl, (blk_cell BK322.out 3).trans rfl, (blk_cell BK322.out 4).trans rfl⟩ (fun hHeld => ?_)
                    clear hK K
                    refine norm_ (a' := ?_) ?_ ?_
                    rotate_left
                    · show Act.put _ (some 123) _ = _
                      simp only [Act.put, List.setIfInBounds_toArray, List.set_cons_zero, List.set_cons_succ, i64_w, i32_w]
                      rfl
                    exact norm_ (by simp only [putAll, Act.put, List.setIfInBounds_toArray, List.set_cons_zero, List.set_cons_succ]) (hCont (v324, v327) _ ⟨hHeld, (by (with_reducible repeat (first | apply Kd.N_alloc | apply Kd.N_drewN | apply Kd.N_drew)); exact Kd.N_mono HO325.out (fun _ hk => ⟨hk.2, hk.1.2⟩)), (by (with_reducible repeat (first | apply Kd.N_alloc | apply Kd.N_drewN | apply Kd.N_drew)); exact HO328.out), (by (with_reducible repeat (first | apply Kd.V_alloc | apply Kd.V_drewN | apply Kd.V_drew)); exact Kd.V_mono HO_323004.out (fun _ hk => ⟨hk.1.2, ⟨hk.2, hk.1.1.2⟩⟩)), (by (with_reducible repeat (first | apply Kd.V_alloc | apply Kd.V_drewN | apply Kd.V_drew)); exact Kd.V_mono HO_5.out (fun _ hk => ⟨hk.1.2, ⟨hk.2, hk.1.1.2⟩⟩)), (by (with_reducible repeat (first | refine blk_drewN ?_ _ | refine blk_drew ?_ | refine blk_alloc ?_ _)); exact BK322.out), (by repeat (first | (with_reducible first | exact HB.out | apply below_alloc | apply pw_below_drewN | apply below_drew1 | refine below_set ?_ GE322.out) | exact HB.out))⟩)
                  · skip
                    refine Kd.N_lit_step k63 _ 63 ?hg (N' := 123) ?hd (xs := ([(⟨(⟨x323000_1, x323001_1, x323002_1⟩ : S51), x323003_1, x323004_1⟩ : S63)] : List (S63))) (inner := [.int .i64 x323000_1, .int .i64 x323001_1, .int .i64 x323002_1, .slice Ao78 x323003_1.length co78, .slice Ao79 x323004_1.length co79]) (ok := (fun k_ => k_ ≠ gb322)) (okp := (fun k_ => k_ ≠ gb322)) ?hr ?hp (fun _ hk => hk) ((show ∀ k_, w76.heap.size ≤ k_ → (fun k_ => k_ ≠ gb322) k_ from fun k_ hk => Kd.freshB (g := gb322) (o := .cells #[.int .i64 x323000_1, .int .i64 x323001_1, .int .i64 x323002_1, .slice Ao78 x323003_1.length co78, .slice Ao79 x323004_1.length co79] 63 (0, 0)) (by (with_reducible repeat (first | refine blk_drewN ?_ _ | refine blk_drew ?_ | refine blk_alloc ?_ _)); exact BK322.out) k_ hk) _ (Nat.le_refl _)) (Below.refl _ _) (Nat.le_refl _) (by simp) ?_; (case hd => rfl); (case hg => rfl); (case hr => first | (go_simp; done) | (go_simp; rfl)); (case hp => exact (Reps.c5 (show Kd.FK k63 _ _ (⟨(⟨x323000_1, x323001_1, x323002_1⟩ : S51), x323003_1, x323004_1⟩ : S63) [.int .i64 x323000_1, .int .i64 x323001_1, .int .i64 x323002_1, .slice Ao78 x323003_1.length co78, .slice Ao79 x323004_1.length co79] from (k63_mkF _ _ (⟨(⟨x323000_1, x323001_1, x323002_1⟩ : S51), x323003_1, x323004_1⟩ : S63) (Kd.R_reads' (Kd.R_mono (ok' := (fun k_ => k_ ≠ gb322)) (Kd.R_types (HO_323003.out) BK322.out (by decide)) (fun k_ hk => hk.2))).2.1 (Kd.R_F (Kd.R_mono (ok' := (fun k_ => k_ ≠ gb322)) (Kd.R_types (HO_323003.out) BK322.out (by decide)) (fun k_ hk => hk.2))) (Kd.V_reads' (Kd.V_mono (ok' := (fun k_ => k_ ≠ gb322)) (HO_323004.out) (fun k_ hk => hk.2))).2.1 (Kd.V_F (Kd.V_mono (ok' := (fun k_ => k_ ≠ gb322)) (HO_323004.out) (fun k_ hk => hk.2))))) (Reps.none _ _)))
                    intro v327 w79 ho80 hb hg_ hnew_
                    clear hg_ hnew_
                    (first | rw [← Ny326.out] at ho80 | (simp only [Int.reduceToNat] at ho80; rw [← Ny326.out] at ho80))
                    have n0_ := Aside0.mk (Kd.V_elder' (by (with_reducible repeat (first | apply Kd.V_alloc | apply Kd.V_drewN | apply Kd.V_drew)); exact HO_5.out) (by first | exact Kd.N_base ho80 | exact Kd.N_base (Kd.S_N ho80)) hb)
                    have n1_ := Aside0.mk (Kd.V_elder' (by (with_reducible repeat (first | apply Kd.V_alloc | apply Kd.V_drewN | apply Kd.V_drew)); exact HO_323004.out) (by first | exact Kd.N_base ho80 | exact Kd.N_base (Kd.S_N ho80)) hb)
                    have n2_ := Aside0.mk (Kd.N_lower ho80 (below_size (by repeat (first | (with_reducible first | exact HB.out | apply below_alloc | apply pw_below_drewN | apply below_drew1 | refine below_set ?_ GE322.out) | exact HB.out))))
                    have n3_ := Aside0.mk (blk_below (g := gb322) (o := .cells #[.int .i64 x323000_1, .int .i64 x323001_1, .int .i64 x323002_1, .slice Ao78 x323003_1.length co78, .slice Ao79 x323004_1.length co79] 63 (0, 0)) (by (with_reducible repeat (first | refine blk_drewN ?_ _ | refine blk_drew ?_ | refine blk_alloc ?_ _)); exact BK322.out) hb)
                    have n4_ := Aside0.mk (below_step (by repeat (first | (with_reducible first | exact HB.out | apply below_alloc | apply pw_below_drewN | apply below_drew1 | refine below_set ?_ GE322.out) | exact HB.out)) hb)
                    clear HO_5
                    clear HO_323004
                    clear BK322
                    clear HB
                    clear HO_323003
                    have HO_5 := n0_
                    have HO_323004 := n1_
                    have HO328 := n2_
                    have BK322 := n3_
                    have HB := n4_
                    clear n0_ n1_ n2_ n3_ n4_
                    clear hb ho80
                    refine hK.out _ _ ⟨(blk_cell BK322.out 0).trans rfl, (blk_cell BK322.out 1).trans rfl, (blk_cell BK322.out 2).trans rfl, (blk_cell BK322.out 3).trans rfl, (blk_cell BK322.out 4).trans rfl⟩ (fun hHeld => ?_)
                    clear hK K
                    refine norm_ (a' := ?_) ?_ ?_
                    rotate_left
                    · show Act.put _ (some 123) _ = _
                      simp only [Act.put, List.setIfInBounds_toArray, List.set_cons_zero, List.set_cons_succ, i64_w, i32_w]
                      rfl
                    refine one_ (i := 1) (N := some 121) #[true, true, true, true, false, false, false, false, false] rfl rfl (one_of HT_.out (by kernel_rfl)) (by decide) (fun K hK => ?_)
                    refine goes_ Try.func35 (by kernel_rfl) rfl #[.slice Ao75 x5_1.length co75] (by rfl) rfl rfl (by (try simp only [List.map_toArray, List.map_cons, List.map_nil]); first | done | rfl | (simp only [List.length_drop, List.length_take]; rfl)) ?_
                    with_reducible refine (remontoirlaw18_As.calls kj10 _ _ x5_1 t323 _ ?side1 ?side2 A71.out).mono ?_
                    (case side1 => repeat (first | exact (Kd.V_reads' HO_5.out).2.2 | (with_reducible refine Kd.C_alloc ?_ _) | (with_reducible refine Kd.C_drewN ?_ _) | (with_reducible refine Kd.C_drew ?_)))
                    (case side2 => exact (Kd.V_reads' HO_5.out).2.1)
                    rintro e w81 ⟨v324, rfl, ho0, hb⟩
                    refine ⟨_, rfl, ?_⟩
                    have n0_ := Aside0.mk (Kd.V_elder' (by (with_reducible repeat (first | apply Kd.V_alloc | apply Kd.V_drewN | apply Kd.V_drew)); exact HO_5.out) (by first | exact Kd.N_base ho0 | exact Kd.N_base (Kd.S_N ho0)) hb)
                    have n1_ := Aside0.mk (Kd.V_elder' (by (with_reducible repeat (first | apply Kd.V_alloc | apply Kd.V_drewN | apply Kd.V_drew)); exact HO_323004.out) (by first | exact Kd.N_base ho0 | exact Kd.N_base (Kd.S_N ho0)) hb)
                    have n2_ := Aside0.mk (Kd.N_elder' (by (with_reducible repeat (first | apply Kd.N_alloc | apply Kd.N_drewN | apply Kd.N_drew)); exact HO328.out) (by first | exact Kd.N_base ho0 | exact Kd.N_base (Kd.S_N ho0)) hb)
                    have n3_ := Aside0.mk (Kd.N_lower (Kd.N_mono (ok' := fun k_ => some k_ ≠ (v327 : Value).ownBlock ∧ k_ ≠ gb322) (Kd.S_N (Kd.S_bound ho0)) (fun k_ hk_ => ⟨(Kd.fresh' (Kd.N_lt (by (with_reducible repeat (first | apply Kd.N_alloc | apply Kd.N_drewN | apply Kd.N_drew)); exact HO328.out)) k_ hk_.2.1), (Kd.freshB (g := gb322) (o := .cells #[.int .i64 x323000_1, .int .i64 x323001_1, .int .i64 x323002_1, .slice Ao78 x323003_1.length co78, .slice Ao79 x323004_1.length co79] 63 (0, 0)) (by (with_reducible repeat (first | refine blk_drewN ?_ _ | refine blk_drew ?_ | refine blk_alloc ?_ _)); exact BK322.out) k_ hk_.2.1)⟩)) (below_size (by repeat (first | (with_reducible first | exact HB.out | apply below_alloc | apply pw_below_drewN | apply below_drew1 | refine below_set ?_ GE322.out) | exact HB.out))))
                    have n4_ := Aside0.mk (blk_below (g := gb322) (o := .cells #[.int .i64 x323000_1, .int .i64 x323001_1, .int .i64 x323002_1, .slice Ao78 x323003_1.length co78, .slice Ao79 x323004_1.length co79] 63 (0, 0)) (by (with_reducible repeat (first | refine blk_drewN ?_ _ | refine blk_drew ?_ | refine blk_alloc ?_ _)); exact BK322.out) hb)
                    have n5_ := Aside0.mk (below_step (by repeat (first | (with_reducible first | exact HB.out | apply below_alloc | apply pw_below_drewN | apply below_drew1 | refine below_set ?_ GE322.out) | exact HB.out)) hb)
                    clear HO_5
                    clear HO_323004
                    clear HO328
                    clear BK322
                    clear HB
                    have HO_5 := n0_
                    have HO_323004 := n1_
                    have HO328 := n2_
                    have HO325 := n3_
                    have BK322 := n4_
                    have HB := n5_
                    clear n0_ n1_ n2_ n3_ n4_ n5_
                    (try clear hb)
                    (try clear hb2)
                    (try clear hk)
                    (try clear hi)
                    (try clear ho0)
                    refine hK.out _ _ ⟨(blk_cell BK322.out 0).trans rfl, (blk_cell BK322.out 1).trans rfl, (blk_cell BK322.out 2).trans rfl, (blk_cell BK322.out 3).trans rfl, (blk_cell BK322.out 4).trans rfl⟩ (fun hHeld => ?_)
                    clear hK K
                    refine norm_ (a' := ?_) ?_ ?_
                    rotate_left
                    · show Act.put _ (some 121) _ = _
                      simp only [Act.put, List.setIfInBounds_toArray, List.set_cons_zero, List.set_cons_succ, i64_w, i32_w]
                      rfl
                    exact norm_ (by simp only [putAll, Act.put, List.setIfInBounds_toArray, List.set_cons_zero, List.set_cons_succ]) (hCont (v324, v327) _ ⟨hHeld, (by (with_reducible repeat (first | apply Kd.N_alloc | apply Kd.N_drewN | apply Kd.N_drew)); exact HO325.out), (by (with_reducible repeat (first | apply Kd.N_alloc | apply Kd.N_drewN | apply Kd.N_drew)); exact Kd.N_mono HO328.out (fun _ hk => ⟨hk.2, hk.1⟩)), (by (with_reducible repeat (first | apply Kd.V_alloc | apply Kd.V_drewN | apply Kd.V_drew)); exact Kd.V_mono HO_323004.out (fun _ hk => ⟨hk.2, ⟨hk.1.2, hk.1.1.2⟩⟩)), (by (with_reducible repeat (first | apply Kd.V_alloc | apply Kd.V_drewN | apply Kd.V_drew)); exact Kd.V_mono HO_5.out (fun _ hk => ⟨hk.2, ⟨hk.1.2, hk.1.1.2⟩⟩)), (by (with_reducible repeat (first | refine blk_drewN ?_ _ | refine blk_drew ?_ | refine blk_alloc ?_ _)); exact BK322.out), (by repeat (first | (with_reducible first | exact HB.out | apply below_alloc | apply pw_below_drewN | apply below_drew1 | refine below_set ?_ GE322.out) | exact HB.out))⟩)
                rintro ⟨v324, v327⟩ w82 ⟨hS_, h0_, h1_, h2_, h3_, h4_, h5_⟩
                have n0_ : Aside0 (Kd.N k63 63 w82 w.heap.size (fun k_ => some k_ ≠ (v327 : Value).ownBlock ∧ k_ ≠ gb322) v324 t323) := ⟨h0_⟩
                have n1_ : Aside0 (Kd.N k63 63 w82 w.heap.size (fun k_ => some k_ ≠ (v324 : Value).ownBlock ∧ k_ ≠ gb322) v327 y326) := ⟨h1_⟩
                have n2_ : Aside0 (Kd.V (Kd.int .i64) 3 w82 w.heap.size (fun k_ => some k_ ≠ (v324 : Value).ownBlock ∧ some k_ ≠ (v327 : Value).ownBlock ∧ k_ ≠ gb322) (.slice Ao79 x323004_1.length co79) x323004_1) := ⟨h2_⟩
                have n3_ : Aside0 (Kd.V k76 76 w82 w.heap.size (fun k_ => some k_ ≠ (v324 : Value).ownBlock ∧ some k_ ≠ (v327 : Value).ownBlock ∧ k_ ≠ gb322) (.slice Ao75 x5_1.length co75) x5_1) := ⟨h3_⟩
                have n4_ : Aside0 (w82.heap[gb322]? = some (.cells #[.int .i64 x323000_1, .int .i64 x323001_1, .int .i64 x323002_1, .slice Ao78 x323003_1.length co78, .slice Ao79 x323004_1.length co79] 63 (0, 0))) := ⟨h4_⟩
                have n5_ : Aside0 (Below w.heap.size w w82) := ⟨h5_⟩
                clear HO_5
                clear HO_323003
                clear HO_323004
                clear BK322
                clear HB
                clear h0_ h1_ h2_ h3_ h4_ h5_
                have HO325 := n0_
                have HO328 := n1_
                have HO_323004 := n2_
                have HO_5 := n3_
                have BK322 := n4_
                have HB := n5_
                clear n0_ n1_ n2_ n3_ n4_ n5_
                have hHeld : w82.cell? ⟨gb322, 0, none⟩ = some (.int .i64 x323000_1) ∧ w82.cell? ⟨gb322, 1, none⟩ = some (.int .i64 x323001_1) ∧ w82.cell? ⟨gb322, 2, none⟩ = some (.int .i64 x323002_1) ∧ w82.cell? ⟨gb322, 3, none⟩ = some (.slice Ao78 x323003_1.length co78) ∧ w82.cell? ⟨gb322, 4, none⟩ = some (.slice Ao79 x323004_1.length co79) := hS_
                obtain ⟨Ao83, co83, eo83⟩ := Kd.N_slice HO325.out
                (first | subst eo83 | (injection eo83 with f1_ f2_ f3_; have f4_ := f1_.symm; have f5_ := f3_.symm; clear f1_ f2_ f3_; subst f4_; subst f5_))
                obtain ⟨Ao84, co84, eo84⟩ := Kd.N_slice HO328.out
                (first | subst eo84 | (injection eo84 with f1_ f2_ f3_; have f4_ := f1_.symm; have f5_ := f3_.symm; clear f1_ f2_ f3_; subst f4_; subst f5_))
                refine norm_ (a' := ?_) ?_ ?_
                rotate_left
                · simp only [putAll, Act.put, List.setIfInBounds_toArray, List.set_cons_zero, List.set_cons_succ]
                  rfl
                refine one_ (i := 4) (N := some 124) #[true, true, true, true, true, false, false, false, false] rfl rfl (one_of HT_.out (by kernel_rfl)) (by decide) (fun K hK => ?_)
                refine goes_ Try.func38 (by kernel_rfl) rfl #[.slice Ao83 t323.length co83, .slice Ao84 y326.length co84] (by rfl) rfl rfl (by (try simp only [List.map_toArray, List.map_cons, List.map_nil]); first | done | rfl | (simp only [List.length_drop, List.length_take]; rfl)) ?_
                with_reducible refine (remontoirlaw18_Same.calls kj10 _ _ t323 _ _ y326 true _ ?side1 ?side2 ?side3 ?side4 A72.out).mono ?_
                (case side1 => repeat (first | exact (Kd.N_reads' HO325.out).2.2 | (with_reducible refine Kd.C_alloc ?_ _) | (with_reducible refine Kd.C_drewN ?_ _) | (with_reducible refine Kd.C_drew ?_)))
                (case side2 => exact (Kd.N_reads' HO325.out).2.1)
                (case side3 => repeat (first | exact (Kd.N_reads' HO328.out).2.2 | (with_reducible refine Kd.C_alloc ?_ _) | (with_reducible refine Kd.C_drewN ?_ _) | (with_reducible refine Kd.C_drew ?_)))
                (case side4 => exact (Kd.N_reads' HO328.out).2.1)
                rintro e w85 ⟨rfl, hb⟩
                refine ⟨_, rfl, ?_⟩
                have n0_ := Aside0.mk (Kd.V_below (by (with_reducible repeat (first | apply Kd.V_alloc | apply Kd.V_drewN | apply Kd.V_drew)); exact HO_5.out) hb)
                have n1_ := Aside0.mk (Kd.V_below (by (with_reducible repeat (first | apply Kd.V_alloc | apply Kd.V_drewN | apply Kd.V_drew)); exact HO_323004.out) hb)
                have n2_ := Aside0.mk (Kd.N_below (by (with_reducible repeat (first | apply Kd.N_alloc | apply Kd.N_drewN | apply Kd.N_drew)); exact HO325.out) hb)
                have n3_ := Aside0.mk (Kd.N_below (by (with_reducible repeat (first | apply Kd.N_alloc | apply Kd.N_drewN | apply Kd.N_drew)); exact HO328.out) hb)
                have n4_ := Aside0.mk (blk_below (g := gb322) (o := .cells #[.int .i64 x323000_1, .int .i64 x323001_1, .int .i64 x323002_1, .slice Ao78 x323003_1.length co78, .slice Ao79 x323004_1.length co79] 63 (0, 0)) (by (with_reducible repeat (first | refine blk_drewN ?_ _ | refine blk_drew ?_ | refine blk_alloc ?_ _)); exact BK322.out) hb)
                have n5_ := Aside0.mk (below_step (by repeat (first | (with_reducible first | exact HB.out | apply below_alloc | apply pw_below_drewN | apply below_drew1 | refine below_set ?_ GE322.out) | exact HB.out)) hb)
                clear HO_5
                clear HO_323004
                clear HO325
                clear HO328
                clear BK322
                clear HB
                have HO_5 := n0_
                have HO_323004 := n1_
                have HO325 := n2_
                have HO328 := n3_
                have BK322 := n4_
                have HB := n5_
                clear n0_ n1_ n2_ n3_ n4_ n5_
                (try clear hb)
                (try clear hb2)
                (try clear hk)
                (try clear hi)
                refine hK.out _ _ ⟨(blk_cell BK322.out 0).trans rfl, (blk_cell BK322.out 1).trans rfl, (blk_cell BK322.out 2).trans rfl, (blk_cell BK322.out 3).trans rfl, (blk_cell BK322.out 4).trans rfl⟩ (fun hHeld => ?_)
                clear hK K
                refine norm_ (a' := ?_) ?_ ?_
                rotate_left
                · show Act.put _ (some 124) _ = _
                  simp only [Act.put, List.setIfInBounds_toArray, List.set_cons_zero, List.set_cons_succ, i64_w, i32_w]
                  rfl
                refine pure_ (i := 5) (N := some 125) (v := ?_) (a' := ?_) #[true, true, true, true, true, true, false, false, false] rfl rfl (any_of HT_.out (by kernel_rfl)) (fun _ _ _ h => h) (Or.inl ⟨by rfl, ?_⟩) ?_ ?_
                rotate_left
                · intro w'
                  go_simp
                  with_reducible rfl
                rotate_left
                · simp only [Act.put, List.setIfInBounds_toArray, List.set_cons_zero, List.set_cons_succ, i64_w, i32_w]
                  rfl
                refine one_ (i := 6) (N := some 126) #[true, true, true, true, true, true, true, false, false] rfl rfl (one_of HT_.out (by kernel_rfl)) (by decide) (fun K hK => ?_)
                refine goes_ Try.func27 (by kernel_rfl) rfl #[] (by rfl) rfl rfl (by (try simp only [List.map_toArray, List.map_cons, List.map_nil]); first | done | rfl | (simp only [List.length_drop, List.length_take]; rfl)) ?_
                with_reducible refine (remontoirlaw18_knows.calls kj10  t330 _ A74.out).mono ?_
                rintro e w86 ⟨rfl, hb⟩
                refine ⟨_, rfl, ?_⟩
                have n0_ := Aside0.mk (Kd.V_below (by (with_reducible repeat (first | apply Kd.V_alloc | apply Kd.V_drewN | apply Kd.V_drew)); exact HO_5.out) hb)
                have n1_ := Aside0.mk (Kd.V_below (by (with_reducible repeat (first | apply Kd.V_alloc | apply Kd.V_drewN | apply Kd.V_drew)); exact HO_323004.out) hb)
                have n2_ := Aside0.mk (Kd.N_below (by (with_reducible repeat (first | apply Kd.N_alloc | apply Kd.N_drewN | apply Kd.N_drew)); exact HO325.out) hb)
                have n3_ := Aside0.mk (Kd.N_below (by (with_reducible repeat (first | apply Kd.N_alloc | apply Kd.N_drewN | apply Kd.N_drew)); exact HO328.out) hb)
                have n4_ := Aside0.mk (blk_below (g := gb322) (o := .cells #[.int .i64 x323000_1, .int .i64 x323001_1, .int .i64 x323002_1, .slice Ao78 x323003_1.length co78, .slice Ao79 x323004_1.length co79] 63 (0, 0)) (by (with_reducible repeat (first | refine blk_drewN ?_ _ | refine blk_drew ?_ | refine blk_alloc ?_ _)); exact BK322.out) hb)
                have n5_ := Aside0.mk (below_step (by repeat (first | (with_reducible first | exact HB.out | apply below_alloc | apply pw_below_drewN | apply below_drew1 | refine below_set ?_ GE322.out) | exact HB.out)) hb)
                clear HO_5
                clear HO_323004
                clear HO325
                clear HO328
                clear BK322
                clear HB
                have HO_5 := n0_
                have HO_323004 := n1_
                have HO325 := n2_
                have HO328 := n3_
                have BK322 := n4_
                have HB := n5_
                clear n0_ n1_ n2_ n3_ n4_ n5_
                (try clear hb)
                (try clear hb2)
                (try clear hk)
                (try clear hi)
                refine hK.out _ _ ⟨(blk_cell BK322.out 0).trans rfl, (blk_cell BK322.out 1).trans rfl, (blk_cell BK322.out 2).trans rfl, (blk_cell BK322.out 3).trans rfl, (blk_cell BK322.out 4).trans rfl⟩ (fun hHeld => ?_)
                clear hK K
                refine norm_ (a' := ?_) ?_ ?_
                rotate_left
                · show Act.put _ (some 126) _ = _
                  simp only [Act.put, List.setIfInBounds_toArray, List.set_cons_zero, List.set_cons_succ, i64_w, i32_w]
                  rfl
                refine pure_ (i := 7) (N := some 127) (v := ?_) (a' := ?_) #[true, true, true, true, true, true, true, true, false] rfl rfl (any_of HT_.out (by kernel_rfl)) (fun _ _ _ h => h) (Or.inl ⟨by rfl, ?_⟩) ?_ ?_
                rotate_left
                · intro w'
                  go_simp
                  with_reducible rfl
                rotate_left
                · simp only [Act.put, List.setIfInBounds_toArray, List.set_cons_zero, List.set_cons_succ, i64_w, i32_w]
                  rfl
                refine pure_ (i := 8) (N := some 4) (v := ?_) (a' := ?_) #[true, true, true, true, true, true, true, true, true] rfl rfl (any_of HT_.out (by kernel_rfl)) (fun _ _ _ h => h) (Or.inl ⟨by rfl, ?_⟩) ?_ ?_
                rotate_left
                · intro w'
                  go_simp
                  with_reducible rfl
                rotate_left
                · simp only [Act.put, List.setIfInBounds_toArray, List.set_cons_zero, List.set_cons_succ, i64_w, i32_w]
                  rfl
                refine done_ (done_of HT_.out (by kernel_rfl)) ?_
                try go_wp2
                go_ret
                exact ⟨by first | rfl | (rw [HR_.out] <;> rfl) | (simp [errW_none, errW_some] <;> rfl) | (simp [*, errW_none, errW_some] <;> rfl), by repeat (first | (with_reducible first | exact HB.out | apply below_alloc | apply pw_below_drewN | apply below_drew1 | refine below_set ?_ GE322.out) | exact HB.out)⟩
              · replace c73 := Bool.eq_false_iff.mpr c73
                subst c73
                have H1 : (some false) = some true := by rw [if_neg (show ¬ (false = true) by decide)] at H; exact H
                clear H
                have H := H1
                clear H1
                exact absurd H (by simp)
  · rw [if_neg c4] at H
    have c4b0 : (t318 == 0) = false := beq_eq_false_iff_ne.mpr c4
    have c4b1 : (t318 != 0) = true := bne_iff_ne.mpr c4
    by_cases c87 : (t317.length : Int) = 0
    · rw [if_pos c87] at H
      have c87b0 : ((t317.length : Int) == 0) = true := beq_iff_eq.mpr c87
      have c87b1 : ((t317.length : Int) != 0) = false := bne_eq_false_iff_eq.mpr c87
      clear c87
      replace H := Option.bind_eq_some_iff.mp H
      obtain ⟨t321, A880, H⟩ := H
      replace H : (some t321) = some true := H
      have A88 := Aside0.mk A880
      clear A880
      have HR_ := Aside0.mk (Option.some.inj H)
      clear H
      go_enter Try.func11, Try.ntmps11
      go_wp2_with (first | ((with_reducible refine gate_dst (N := 18) rfl ?_); refine Kd.R_lit k51 _ 51 ?hg (N := 18) ?hd (xs := ([(⟨1, 0, a0⟩ : S51)] : List (S51))) (inner := [.int .i64 1, .int .i64 0, .int .i64 a0]) (ok := fun _ => True) (okp := fun _ => True) ?hr ?hp (fun _ hk => hk) trivial (Below.refl _ _) (Nat.le_refl _) (by simp) ?_; (case hd => rfl); (case hg => rfl); (case hr => first | (go_simp; done) | (go_simp; rfl)); (case hp => exact (Reps.c3 (show Kd.M k51 _ _ _ (⟨1, 0, a0⟩ : S51) [.int .i64 1, .int .i64 0, .int .i64 a0] from (k51_mkM _ _ _ (⟨1, 0, a0⟩ : S51) )) (Reps.none _ _))); intro v315 w89 ho90 hb hg_ hnew_; clear hg_ hnew_; (first | rw [← Ny314.out] at ho90 | (simp only [Int.reduceToNat] at ho90; rw [← Ny314.out] at ho90)); have n0_ := Aside0.mk (Kd.R_lower ho90 (below_size (by repeat (first | (with_reducible first | exact HB.out | apply below_alloc | apply pw_below_drewN | apply below_drew1) | exact HB.out)))); have n1_ := Aside0.mk (below_step (by repeat (first | (with_reducible first | exact HB.out | apply below_alloc | apply pw_below_drewN | apply below_drew1) | exact HB.out)) hb); clear HB; have HO316 := n0_; have HB := n1_; clear n0_ n1_; clear hb ho90; obtain ⟨Ao91, co91, eo91⟩ := Kd.R_slice HO316.out; subst eo91) | ((with_reducible refine gate_callee (f := 26) rfl ?_); refine goesL_ (some 19) rfl rfl Try.func26 (by kernel_rfl) rfl #[.slice Ao91 y314.length co91] rfl (by (try simp only [List.map_toArray, List.map_cons, List.map_nil]); first | done | rfl | (simp only [List.length_drop, List.length_take]; rfl)) ?_; (with_reducible refine (port_Open.calls k _ _ y314 t317 t318 _ ?side1 ?side2 A3.out).mono ?_); (case side1 => repeat (first | exact (Kd.R_reads' HO316.out).2.2 | (with_reducible refine Kd.C_alloc ?_ _) | (with_reducible refine Kd.C_drewN ?_ _) | (with_reducible refine Kd.C_drew ?_))); (case side2 => exact (Kd.R_reads' HO316.out).2.1); rintro e w92 ⟨v319, rfl, ho0, hb⟩; refine ⟨_, rfl, ?_⟩; have n0_ := Aside0.mk (Kd.R_below (by (with_reducible repeat (first | apply Kd.R_alloc | apply Kd.R_drewN | apply Kd.R_drew)); exact HO316.out) hb); have n1_ := Aside0.mk (Kd.N_lower (Kd.N_mono (ok' := fun k_ => some k_ ≠ (.slice Ao91 y314.length co91 : Value).ownBlock) (Kd.S_N (Kd.S_bound ho0)) (fun k_ hk_ => (Kd.fresh' (Kd.R_lt (by (with_reducible repeat (first | apply Kd.R_alloc | apply Kd.R_drewN | apply Kd.R_drew)); exact HO316.out)) k_ hk_.2.1))) (below_size (by repeat (first | (with_reducible first | exact HB.out | apply below_alloc | apply pw_below_drewN | apply below_drew1) | exact HB.out)))); have n2_ := Aside0.mk (below_step (by repeat (first | (with_reducible first | exact HB.out | apply below_alloc | apply pw_below_drewN | apply below_drew1) | exact HB.out)) hb); clear HO316; clear HB; have HO316 := n0_; have HO320 := n1_; have HB := n2_; clear n0_ n1_ n2_; (try clear hb); (try clear hb2); (try clear hk); (try clear hi); (try clear ho0); obtain ⟨Ao93, co93, eo93⟩ := Kd.N_slice HO320.out; subst eo93) | (go_at_call 27; (with_reducible refine (remontoirlaw18_knows.calls k  t321 _ A88.out).mono ?_); rintro e w94 ⟨rfl, hb⟩; have n0_ := Aside0.mk (Kd.R_below (by (with_reducible repeat (first | apply Kd.R_alloc | apply Kd.R_drewN | apply Kd.R_drew)); exact HO316.out) hb); have n1_ := Aside0.mk (Kd.N_below (by (with_reducible repeat (first | apply Kd.N_alloc | apply Kd.N_drewN | apply Kd.N_drew)); exact HO320.out) hb); have n2_ := Aside0.mk (below_step (by repeat (first | (with_reducible first | exact HB.out | apply below_alloc | apply pw_below_drewN | apply below_drew1) | exact HB.out)) hb); clear HO316; clear HO320; clear HB; have HO316 := n0_; have HO320 := n1_; have HB := n2_; clear n0_ n1_ n2_; (try clear hb); (try clear hb2); (try clear hk); (try clear hi)))
      go_ret
      exact ⟨by first | rfl | (rw [HR_.out] <;> rfl) | (simp [errW_none, errW_some] <;> rfl) | (simp [*, errW_none, errW_some] <;> rfl), by repeat (first | (with_reducible first | exact HB.out | apply below_alloc | apply pw_below_drewN | apply below_drew1) | exact HB.out)⟩
    · rw [if_neg c87] at H
      have c87b0 : ((t317.length : Int) == 0) = false := beq_eq_false_iff_ne.mpr c87
      have c87b1 : ((t317.length : Int) != 0) = true := bne_iff_ne.mpr c87
      have c87b2 : ¬ (t317 = []) := fun h_ => c87 (by rw [h_]; rfl)
      exact absurd H (by simp)

/-- The statement of remontoirlaw18_PortOrders over plain data. -/
def remontoirlaw18_PortOrders.Pure : Prop := ∀ (a0 : Int) (l1 : List Int), (Lit.int .i64 a0).wf = true → (l1.length ≤ 9223372036854775807 ∧ ∀ x ∈ l1, (Lit.int .u8 x).wf = true) → ∃ k, remontoirlaw18_PortOrders.f k a0 l1 = some true

end Go.Proofs.Yteddflcloeelhaa.FOrd
