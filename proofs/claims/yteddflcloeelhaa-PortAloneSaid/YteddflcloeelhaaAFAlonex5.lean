-- Written by the session (wip/tools) for this claim: functions of the program as Lean functions, and their contracts.
import Derived.Test.YteddflcloeelhaaAFAlonex0
import Derived.Test.YteddflcloeelhaaAFAlonex1
import Derived.Test.YteddflcloeelhaaAFAlonex2
import Derived.Test.YteddflcloeelhaaAFAlonex3
import Derived.Test.YteddflcloeelhaaAFAlonex4
namespace Go.Proofs.Yteddflcloeelhaa.FAlone
open Go.RowKit Go.Proofs.YteddflcloeelhaaW.PrintWords Go.Proofs.YteddflcloeelhaaW.PrintLast Go.Proofs.YteddflcloeelhaaW.PrintMore
attribute [local go_sem] max2_int min2_int max_two min_two max_three min_three max_four min_four   -- for this text's walks alone
set_option linter.unusedVariables false
set_option linter.unusedSimpArgs false

/-! ### remontoirlaw18_PortAlone: function 8 -/
mutual
def remontoirlaw18_PortAlone.l0 : Nat → List Int → List (S76) → List (S76) → Int → Option (Bool)
  | 0, _, _, _, _ => none
  | k + 1, x1, x5, x7, x8 => if x8 < (x1.length : Int) then (remontoirlaw18_PortAlone.j1 k x1 x5 x7 x8 (decide (x8 < 60))) else (remontoirlaw18_PortAlone.j1 k x1 x5 x7 x8 false)
def remontoirlaw18_PortAlone.j1 : Nat → List Int → List (S76) → List (S76) → Int → Bool → Option (Bool)
  | 0, _, _, _, _, _ => none
  | k + 1, x1, x5, x7, x8, x39 => if x39 = true then (if 0 ≤ x8 then (if x8 < (x1.length : Int) then (if (rd x1 x8) = 0 then ((port_Send.f k x5 1 0 x8).bind fun bt276 => ((port_Send.f k x7 1 0 x8).bind fun bt280 => (if bt276.2 = bt280.2 then (remontoirlaw18_PortAlone.l0 k x1 bt276.1 bt280.1 (wrap64 (x8 + 1))) else (some false)))) else (if (rd x1 x8) = 1 then ((port_Read.f k x5 0 0).bind fun bt285 => (remontoirlaw18_PortAlone.l0 k x1 bt285.2.1 x7 (wrap64 (x8 + 1)))) else ((port_Deliver.f k x5).bind fun t290 => ((port_Deliver.f k x7).bind fun t293 => (remontoirlaw18_PortAlone.l0 k x1 t290 t293 (wrap64 (x8 + 1))))))) else (none)) else (none)) else ((port_Right.f k x5).bind fun t272 => (if t272 = true then ((port_Right.f k x7).bind fun t273 => (if t273 = true then ((remontoirlaw18_knows.f k).bind fun t274 => (some t274)) else (some false))) else (some false)))
end
def remontoirlaw18_PortAlone.f (k : Nat) (a0 : Int) (l1 : List Int) : Option (Bool) := (port_Open.f k (([(⟨1, 0, a0⟩ : S51)] : List (S51)))).bind fun bt267 => (if bt267.2 = 0 then (remontoirlaw18_PortAlone.l0 k l1 bt267.1 bt267.1 0) else (if (bt267.1.length : Int) = 0 then ((remontoirlaw18_knows.f k).bind fun t271 => (some t271)) else (some false)))
theorem remontoirlaw18_PortAlone.mono_l : ∀ k, (∀ y0 y1 y2 y3, LeO (remontoirlaw18_PortAlone.l0 k y0 y1 y2 y3) (remontoirlaw18_PortAlone.l0 (k + 1) y0 y1 y2 y3)) ∧ (∀ y0 y1 y2 y3 y4, LeO (remontoirlaw18_PortAlone.j1 k y0 y1 y2 y3 y4) (remontoirlaw18_PortAlone.j1 (k + 1) y0 y1 y2 y3 y4))
  | 0 => ⟨fun _ _ _ _ r h => by simp [remontoirlaw18_PortAlone.l0] at h, fun _ _ _ _ _ r h => by simp [remontoirlaw18_PortAlone.j1] at h⟩
  | k + 1 => by
    obtain ⟨ih0, ih1⟩ := remontoirlaw18_PortAlone.mono_l k
    refine ⟨?_, ?_⟩
    · intro y0 y1 y2 y3
      unfold remontoirlaw18_PortAlone.l0
      repeat' first
      | (with_reducible exact ih0 _ _ _ _)
      | (with_reducible exact ih1 _ _ _ _ _)
      | (with_reducible exact port_Deliver.mono _ _)
      | (with_reducible exact port_Open.mono _ _)
      | (with_reducible exact port_Read.mono _ _ _ _)
      | (with_reducible exact port_Right.mono _ _)
      | (with_reducible exact port_Send.mono _ _ _ _ _)
      | (with_reducible exact remontoirlaw18_knows.mono _)
      | (with_reducible exact LeO.refl _)
      | (with_reducible exact LeO.none _)
      | (with_reducible refine LeO.ite ?_ ?_)
      | (with_reducible refine LeO.bind ?_ (fun _ => ?_))
      | exact ih0 _ _ _ _
      | exact ih1 _ _ _ _ _
      | exact port_Deliver.mono _ _
      | exact port_Open.mono _ _
      | exact port_Read.mono _ _ _ _
      | exact port_Right.mono _ _
      | exact port_Send.mono _ _ _ _ _
      | exact remontoirlaw18_knows.mono _
      | exact LeO.none _
      | refine LeO.ite ?_ ?_
      | refine LeO.bind ?_ (fun _ => ?_)
    · intro y0 y1 y2 y3 y4
      unfold remontoirlaw18_PortAlone.j1
      repeat' first
      | (with_reducible exact ih0 _ _ _ _)
      | (with_reducible exact ih1 _ _ _ _ _)
      | (with_reducible exact port_Deliver.mono _ _)
      | (with_reducible exact port_Open.mono _ _)
      | (with_reducible exact port_Read.mono _ _ _ _)
      | (with_reducible exact port_Right.mono _ _)
      | (with_reducible exact port_Send.mono _ _ _ _ _)
      | (with_reducible exact remontoirlaw18_knows.mono _)
      | (with_reducible exact LeO.refl _)
      | (with_reducible exact LeO.none _)
      | (with_reducible refine LeO.ite ?_ ?_)
      | (with_reducible refine LeO.bind ?_ (fun _ => ?_))
      | exact ih0 _ _ _ _
      | exact ih1 _ _ _ _ _
      | exact port_Deliver.mono _ _
      | exact port_Open.mono _ _
      | exact port_Read.mono _ _ _ _
      | exact port_Right.mono _ _
      | exact port_Send.mono _ _ _ _ _
      | exact remontoirlaw18_knows.mono _
      | exact LeO.none _
      | refine LeO.ite ?_ ?_
      | refine LeO.bind ?_ (fun _ => ?_)
theorem remontoirlaw18_PortAlone.mono : ∀ a0 a1 k, LeO (remontoirlaw18_PortAlone.f k a0 a1) (remontoirlaw18_PortAlone.f (k + 1) a0 a1) := by
  intro a0 a1 k
  obtain ⟨ih0, ih1⟩ := remontoirlaw18_PortAlone.mono_l k
  unfold remontoirlaw18_PortAlone.f
  repeat' first
      | (with_reducible exact ih0 _ _ _ _)
      | (with_reducible exact ih1 _ _ _ _ _)
      | (with_reducible exact port_Deliver.mono _ _)
      | (with_reducible exact port_Open.mono _ _)
      | (with_reducible exact port_Read.mono _ _ _ _)
      | (with_reducible exact port_Right.mono _ _)
      | (with_reducible exact port_Send.mono _ _ _ _ _)
      | (with_reducible exact remontoirlaw18_knows.mono _)
      | (with_reducible exact LeO.refl _)
      | (with_reducible exact LeO.none _)
      | (with_reducible refine LeO.ite ?_ ?_)
      | (with_reducible refine LeO.bind ?_ (fun _ => ?_))
      | exact ih0 _ _ _ _
      | exact ih1 _ _ _ _ _
      | exact port_Deliver.mono _ _
      | exact port_Open.mono _ _
      | exact port_Read.mono _ _ _ _
      | exact port_Right.mono _ _
      | exact port_Send.mono _ _ _ _ _
      | exact remontoirlaw18_knows.mono _
      | exact LeO.none _
      | refine LeO.ite ?_ ?_
      | refine LeO.bind ?_ (fun _ => ?_)
set_option maxHeartbeats 8000000 in
set_option maxRecDepth 100000 in
theorem remontoirlaw18_PortAlone.calls (k : Nat) (a0 : Int) (A1 : Option Addr) (c1 : Nat) (l1 : List Int) (w : World) (hr1 : Kd.C (Kd.int .u8) w A1 l1.length l1) (hc1 : l1.length ≤ c1) (h : remontoirlaw18_PortAlone.f k a0 l1 = some true) :
    Calls Try.prog 8 #[.int .i64 a0, .slice A1 l1.length c1] w fun e w' => e = .returned (.bool true) ∧ Below w.heap.size w w' := by
  have hu51 := Try.underlying51
  have HR1 := Aside0.mk hr1
  have HC1 := Aside0.mk hc1
  clear hr1 hc1
  have HB := Aside0.mk (Below.refl w.heap.size w)
  have H : ((port_Open.f k (([(⟨1, 0, a0⟩ : S51)] : List (S51)))).bind fun bt267 => (if bt267.2 = 0 then (remontoirlaw18_PortAlone.l0 k l1 bt267.1 bt267.1 0) else (if (bt267.1.length : Int) = 0 then ((remontoirlaw18_knows.f k).bind fun t271 => (some t271)) else (some false)))) = some true := h
  clear h
  obtain ⟨y264, hy264⟩ : ∃ y_ : List (S51), y_ = (([(⟨1, 0, a0⟩ : S51)] : List (S51))) := ⟨_, rfl⟩
  replace H : ((port_Open.f k y264).bind fun bt267 => (if bt267.2 = 0 then (remontoirlaw18_PortAlone.l0 k l1 bt267.1 bt267.1 0) else (if (bt267.1.length : Int) = 0 then ((remontoirlaw18_knows.f k).bind fun t271 => (some t271)) else (some false)))) = some true := by first | (rw [hy264]; with_reducible exact H) | (have H2_ := (Option.bind_some _ _).symm.trans H; rw [hy264]; with_reducible exact H2_) | (have H2_ := (Option.bind_some _ _).symm.trans H; with_reducible exact H2_) | with_reducible exact H | (rw [hy264]; exact H) | exact H
  have Ny264 := Aside0.mk hy264
  clear hy264
  replace H := Option.bind_eq_some_iff.mp H
  obtain ⟨⟨t267, t268⟩, A30, H⟩ := H
  replace H : (if t268 = 0 then (remontoirlaw18_PortAlone.l0 k l1 t267 t267 0) else (if (t267.length : Int) = 0 then ((remontoirlaw18_knows.f k).bind fun t271 => (some t271)) else (some false))) = some true := H
  have A3 := Aside0.mk A30
  clear A30
  by_cases c4 : t268 = 0
  · rw [if_pos c4] at H
    have c4b0 : (t268 == 0) = true := beq_iff_eq.mpr c4
    have c4b1 : (t268 != 0) = false := bne_eq_false_iff_eq.mpr c4
    clear c4
    have H' := Aside0.mk H
    clear H
    go_enter Try.func8, Try.ntmps8
    go_wp2_with (first | ((with_reducible refine gate_dst (N := 19) rfl ?_); refine Kd.R_lit k51 _ 51 ?hg (N := 19) ?hd (xs := ([(⟨1, 0, a0⟩ : S51)] : List (S51))) (inner := [.int .i64 1, .int .i64 0, .int .i64 a0]) (ok := fun _ => True) (okp := fun _ => True) ?hr ?hp (fun _ hk => hk) trivial (Below.refl _ _) (Nat.le_refl _) (by simp) ?_; (case hd => rfl); (case hg => rfl); (case hr => first | (go_simp; done) | (go_simp; rfl)); (case hp => exact (Reps.c3 (show Kd.M k51 _ _ _ (⟨1, 0, a0⟩ : S51) [.int .i64 1, .int .i64 0, .int .i64 a0] from (k51_mkM _ _ _ (⟨1, 0, a0⟩ : S51) )) (Reps.none _ _))); intro v265 w5 ho6 hb hg_ hnew_; clear hg_ hnew_; (first | rw [← Ny264.out] at ho6 | (simp only [Int.reduceToNat] at ho6; rw [← Ny264.out] at ho6)); have n0_ := Aside0.mk (Kd.R_lower ho6 (below_size (by repeat (first | (with_reducible first | exact HB.out | apply below_alloc | apply pw_below_drewN | apply below_drew1) | exact HB.out)))); have n1_ := Aside0.mk (below_step (by repeat (first | (with_reducible first | exact HB.out | apply below_alloc | apply pw_below_drewN | apply below_drew1) | exact HB.out)) hb); clear HB; have HO266 := n0_; have HB := n1_; clear n0_ n1_; clear hb ho6; obtain ⟨Ao7, co7, eo7⟩ := Kd.R_slice HO266.out; subst eo7) | ((with_reducible refine gate_callee (f := 26) rfl ?_); refine goesL_ (some 20) rfl rfl Try.func26 (by kernel_rfl) rfl #[.slice Ao7 y264.length co7] rfl (by (try simp only [List.map_toArray, List.map_cons, List.map_nil]); first | done | rfl | (simp only [List.length_drop, List.length_take]; rfl)) ?_; (with_reducible refine (port_Open.calls k _ _ y264 t267 t268 _ ?side1 ?side2 A3.out).mono ?_); (case side1 => repeat (first | exact (Kd.R_reads' HO266.out).2.2 | (with_reducible refine Kd.C_alloc ?_ _) | (with_reducible refine Kd.C_drewN ?_ _) | (with_reducible refine Kd.C_drew ?_))); (case side2 => exact (Kd.R_reads' HO266.out).2.1); rintro e w8 ⟨v269, rfl, ho0, hb⟩; refine ⟨_, rfl, ?_⟩; have n0_ := Aside0.mk (Kd.R_below (by (with_reducible repeat (first | apply Kd.R_alloc | apply Kd.R_drewN | apply Kd.R_drew)); exact HO266.out) hb); have n1_ := Aside0.mk (Kd.N_lower (Kd.N_mono (ok' := fun k_ => some k_ ≠ (.slice Ao7 y264.length co7 : Value).ownBlock) (Kd.S_N (Kd.S_bound ho0)) (fun k_ hk_ => (Kd.fresh' (Kd.R_lt (by (with_reducible repeat (first | apply Kd.R_alloc | apply Kd.R_drewN | apply Kd.R_drew)); exact HO266.out)) k_ hk_.2.1))) (below_size (by repeat (first | (with_reducible first | exact HB.out | apply below_alloc | apply pw_below_drewN | apply below_drew1) | exact HB.out)))); have n2_ := Aside0.mk (below_step (by repeat (first | (with_reducible first | exact HB.out | apply below_alloc | apply pw_below_drewN | apply below_drew1) | exact HB.out)) hb); clear HO266; clear HB; have HO266 := n0_; have HO270 := n1_; have HB := n2_; clear n0_ n1_ n2_; (try clear hb); (try clear hb2); (try clear hk); (try clear hi); (try clear ho0)))
    go_loopg [5, 7, 8] k (fun kq v5 v7 v8 w' => ∃ (x5_1 : List (S76)) (x7_1 : List (S76)) (x8_1 : Int), v8 = .int .i64 x8_1 ∧ Aside0 (remontoirlaw18_PortAlone.l0 kq l1 x5_1 x7_1 x8_1 = some true) ∧ Aside0 (kq ≤ k) ∧ Aside0 (Kd.V k76 76 w' w.heap.size (fun _ => True) v5 x5_1) ∧ Aside0 (Kd.V k76 76 w' w.heap.size (fun _ => True) v7 x7_1) ∧ Aside0 (Below w.heap.size w w'))
    case atStart => exact ⟨(t267), (t267), (0), (by first | rfl | (simp; done) | (simp [*]; done)), H', ⟨Nat.le_refl _⟩, ⟨Kd.N_V (by (with_reducible repeat (first | apply Kd.N_alloc | apply Kd.N_drewN | apply Kd.N_drew)); exact Kd.N_mono HO270.out (fun _ hk => trivial))⟩, ⟨Kd.N_V (by (with_reducible repeat (first | apply Kd.N_alloc | apply Kd.N_drewN | apply Kd.N_drew)); exact Kd.N_mono HO270.out (fun _ hk => trivial))⟩, ⟨by repeat (first | (with_reducible first | exact HB.out | apply below_alloc | apply pw_below_drewN | apply below_drew1) | exact HB.out)⟩⟩
    case round =>
      clear H'
      try clear c1
      try clear c2
      try clear p2
      try clear c3
      try clear c4
      try clear c4b0
      try clear c4b1
      try clear c8
      obtain ⟨x5_1, x7_1, x8_1, rfl, HA, HK1, HO_5, HO_7, HB⟩ := hrel
      cases gk with
      | zero => exact absurd HA.out (by simp [remontoirlaw18_PortAlone.l0])
      | succ k1 =>
        have H := HA.out
        clear HA
        simp only [remontoirlaw18_PortAlone.l0] at H
        have HC9 := Aside0.mk H
        clear H
        go_upto_region 6 with (fail)
        go_cut [39] (fun v39 wc => ∃ (kq : Nat) (x39_8 : Bool), v39 = .bool x39_8 ∧ Aside0 (remontoirlaw18_PortAlone.j1 kq l1 x5_1 x7_1 x8_1 x39_8 = some true) ∧ Aside0 (kq ≤ k1) ∧ Aside0 (Kd.V k76 76 wc w.heap.size (fun _ => True) u5 x5_1) ∧ Aside0 (Kd.V k76 76 wc w.heap.size (fun _ => True) u7 x7_1) ∧ Aside0 (Below w.heap.size w wc))
        case first =>
          have H := HC9.out
          clear HC9
          by_cases c10 : x8_1 < (l1.length : Int)
          · rw [if_pos c10] at H
            have c10b0 : decide (x8_1 < (l1.length : Int)) = true := decide_eq_true c10
            clear c10
            (first | rw [c10b0] | (simp only [i64_w, i32_w]; rw [c10b0]) | rw [c10b1] | (simp only [i64_w, i32_w]; rw [c10b1]) | skip)
            have H' := Aside0.mk H
            clear H
            go_wp2
            go_meet
            case rel => exact ⟨_, (decide (x8_1 < 60)), (by first | rfl | (simp; done) | (simp [*]; done)), H', ⟨by have := HK1.out; first | omega | exact Nat.le_refl _⟩, ⟨by (with_reducible repeat (first | apply Kd.V_alloc | apply Kd.V_drewN | apply Kd.V_drew)); exact HO_5.out⟩, ⟨by (with_reducible repeat (first | apply Kd.V_alloc | apply Kd.V_drewN | apply Kd.V_drew)); exact HO_7.out⟩, ⟨by repeat (first | (with_reducible first | exact HB.out | apply below_alloc | apply pw_below_drewN | apply below_drew1) | exact HB.out)⟩⟩
          · rw [if_neg c10] at H
            have c10b0 : decide (x8_1 < (l1.length : Int)) = false := decide_eq_false c10
            clear c10
            (first | rw [c10b0] | (simp only [i64_w, i32_w]; rw [c10b0]) | rw [c10b1] | (simp only [i64_w, i32_w]; rw [c10b1]) | skip)
            have H' := Aside0.mk H
            clear H
            go_wp2
            go_meet
            case rel => exact ⟨_, (false), (by first | rfl | (simp; done) | (simp [*]; done)), H', ⟨by have := HK1.out; first | omega | exact Nat.le_refl _⟩, ⟨by (with_reducible repeat (first | apply Kd.V_alloc | apply Kd.V_drewN | apply Kd.V_drew)); exact HO_5.out⟩, ⟨by (with_reducible repeat (first | apply Kd.V_alloc | apply Kd.V_drewN | apply Kd.V_drew)); exact HO_7.out⟩, ⟨by repeat (first | (with_reducible first | exact HB.out | apply below_alloc | apply pw_below_drewN | apply below_drew1) | exact HB.out)⟩⟩
        case rest =>
          clear HC9
          try clear c1
          try clear c2
          try clear p2
          try clear c3
          try clear c4
          try clear c4b0
          try clear c4b1
          try clear c8
          try clear c10
          try clear c10b0
          try clear p2
          obtain ⟨kq, x39_8, rfl, HA, HJ8, HO_5, HO_7, HB⟩ := hcut
          cases kq with
          | zero => exact absurd HA.out (by simp [remontoirlaw18_PortAlone.j1])
          | succ kj8 =>
            have H := HA.out
            clear HA
            simp only [remontoirlaw18_PortAlone.j1] at H
            by_cases c11 : x39_8 = true
            · subst c11
              have H1 : (if 0 ≤ x8_1 then (if x8_1 < (l1.length : Int) then (if (rd l1 x8_1) = 0 then ((port_Send.f kj8 x5_1 1 0 x8_1).bind fun bt276 => ((port_Send.f kj8 x7_1 1 0 x8_1).bind fun bt280 => (if bt276.2 = bt280.2 then (remontoirlaw18_PortAlone.l0 kj8 l1 bt276.1 bt280.1 (wrap64 (x8_1 + 1))) else (some false)))) else (if (rd l1 x8_1) = 1 then ((port_Read.f kj8 x5_1 0 0).bind fun bt285 => (remontoirlaw18_PortAlone.l0 kj8 l1 bt285.2.1 x7_1 (wrap64 (x8_1 + 1)))) else ((port_Deliver.f kj8 x5_1).bind fun t290 => ((port_Deliver.f kj8 x7_1).bind fun t293 => (remontoirlaw18_PortAlone.l0 kj8 l1 t290 t293 (wrap64 (x8_1 + 1))))))) else (none)) else (none)) = some true := by rw [if_pos rfl] at H; exact H
              clear H
              have H := H1
              clear H1
              by_cases c12 : 0 ≤ x8_1
              · rw [if_pos c12] at H
                have c12b0 : decide (0 ≤ x8_1) = true := decide_eq_true c12
                clear c12
                by_cases c13 : x8_1 < (l1.length : Int)
                · rw [if_pos c13] at H
                  have c13b0 : decide (x8_1 < (l1.length : Int)) = true := decide_eq_true c13
                  clear c13
                  by_cases c14 : (rd l1 x8_1) = 0
                  · rw [if_pos c14] at H
                    have c14b0 : ((rd l1 x8_1) == 0) = true := beq_iff_eq.mpr c14
                    have c14b1 : ((rd l1 x8_1) != 0) = false := bne_eq_false_iff_eq.mpr c14
                    clear c14
                    replace H := Option.bind_eq_some_iff.mp H
                    obtain ⟨⟨t276, t279⟩, A150, H⟩ := H
                    replace H : ((port_Send.f kj8 x7_1 1 0 x8_1).bind fun bt280 => (if t279 = bt280.2 then (remontoirlaw18_PortAlone.l0 kj8 l1 t276 bt280.1 (wrap64 (x8_1 + 1))) else (some false))) = some true := H
                    have A15 := Aside0.mk A150
                    clear A150
                    replace H := Option.bind_eq_some_iff.mp H
                    obtain ⟨⟨t280, t283⟩, A160, H⟩ := H
                    replace H : (if t279 = t283 then (remontoirlaw18_PortAlone.l0 kj8 l1 t276 t280 (wrap64 (x8_1 + 1))) else (some false)) = some true := H
                    have A16 := Aside0.mk A160
                    clear A160
                    by_cases c17 : t279 = t283
                    · rw [if_pos c17] at H
                      have c17b0 : (t279 == t283) = true := beq_iff_eq.mpr c17
                      have c17b1 : (t279 != t283) = false := bne_eq_false_iff_eq.mpr c17
                      clear c17
                      have H' := Aside0.mk H
                      clear H
                      have p275 : 0 ≤ (x8_1 : Int) := of_decide_eq_true (by first | (with_reducible assumption) | assumption)
                      have q275 : x8_1 < (l1.length : Int) := of_decide_eq_true (by first | (with_reducible assumption) | assumption)
                      obtain ⟨ad275, e275, hx275_0⟩ := Kd.at_int HR1.out x8_1 p275 q275
                      cases e275
                      replace hx275_0 := (HB.out.cell (World.block_lt_of_cell? w _ hx275_0)).trans hx275_0
                      replace p275 := eq_true p275
                      replace q275 := eq_true q275
                      obtain ⟨Ao18, co18, eo18⟩ := Kd.V_slice HO_5.out
                      subst eo18
                      go_wp2_with (first | ((with_reducible refine gate_callee (f := 28) rfl ?_); refine goesL_ (some 50) rfl rfl Try.func28 (by kernel_rfl) rfl #[.slice Ao18 x5_1.length co18, .int .i64 1, .int .i64 0, .int .i64 x8_1] rfl (by (try simp only [List.map_toArray, List.map_cons, List.map_nil]); first | done | rfl | (simp only [List.length_drop, List.length_take]; rfl)) ?_; (with_reducible refine (port_Send.calls kj8 (fun k_ => True) _ _ x5_1 1 0 x8_1 t276 t279 _ ?side1 A15.out).mono ?_); (case side1 => exact HO_5.out); rintro e w19 ⟨v277, rfl, ho0, hb⟩; refine ⟨_, rfl, ?_⟩; have n0_ := Aside0.mk (Kd.V_below (by (with_reducible repeat (first | apply Kd.V_alloc | apply Kd.V_drewN | apply Kd.V_drew)); exact HO_5.out) hb); have n1_ := Aside0.mk (Kd.V_below (by (with_reducible repeat (first | apply Kd.V_alloc | apply Kd.V_drewN | apply Kd.V_drew)); exact HO_7.out) hb); have n2_ := Aside0.mk (Kd.V_lower (Kd.V_mono (ok' := fun k_ => True) ho0 (fun k_ hk_ => trivial)) (below_size (by repeat (first | (with_reducible first | exact HB.out | apply below_alloc | apply pw_below_drewN | apply below_drew1) | exact HB.out)))); have n3_ := Aside0.mk (below_step (by repeat (first | (with_reducible first | exact HB.out | apply below_alloc | apply pw_below_drewN | apply below_drew1) | exact HB.out)) hb); clear HO_5; clear HO_7; clear HB; have HO_5 := n0_; have HO_7 := n1_; have HO278 := n2_; have HB := n3_; clear n0_ n1_ n2_ n3_; (try clear hb); (try clear hb2); (try clear hk); (try clear hi); (try clear ho0); obtain ⟨Ao20, co20, eo20⟩ := Kd.V_slice HO_7.out; subst eo20) | ((with_reducible refine gate_callee (f := 28) rfl ?_); refine goesL_ (some 56) rfl rfl Try.func28 (by kernel_rfl) rfl #[.slice Ao20 x7_1.length co20, .int .i64 1, .int .i64 0, .int .i64 x8_1] rfl (by (try simp only [List.map_toArray, List.map_cons, List.map_nil]); first | done | rfl | (simp only [List.length_drop, List.length_take]; rfl)) ?_; (with_reducible refine (port_Send.calls kj8 (fun k_ => True) _ _ x7_1 1 0 x8_1 t280 t283 _ ?side1 A16.out).mono ?_); (case side1 => exact HO_7.out); rintro e w21 ⟨v281, rfl, ho0, hb⟩; refine ⟨_, rfl, ?_⟩; have n0_ := Aside0.mk (Kd.V_below (by (with_reducible repeat (first | apply Kd.V_alloc | apply Kd.V_drewN | apply Kd.V_drew)); exact HO_5.out) hb); have n1_ := Aside0.mk (Kd.V_below (by (with_reducible repeat (first | apply Kd.V_alloc | apply Kd.V_drewN | apply Kd.V_drew)); exact HO_7.out) hb); have n2_ := Aside0.mk (Kd.V_below (by (with_reducible repeat (first | apply Kd.V_alloc | apply Kd.V_drewN | apply Kd.V_drew)); exact HO278.out) hb); have n3_ := Aside0.mk (Kd.V_lower (Kd.V_mono (ok' := fun k_ => True) ho0 (fun k_ hk_ => trivial)) (below_size (by repeat (first | (with_reducible first | exact HB.out | apply below_alloc | apply pw_below_drewN | apply below_drew1) | exact HB.out)))); have n4_ := Aside0.mk (below_step (by repeat (first | (with_reducible first | exact HB.out | apply below_alloc | apply pw_below_drewN | apply below_drew1) | exact HB.out)) hb); clear HO_5; clear HO_7; clear HO278; clear HB; have HO_5 := n0_; have HO_7 := n1_; have HO278 := n2_; have HO282 := n3_; have HB := n4_; clear n0_ n1_ n2_ n3_ n4_; (try clear hb); (try clear hb2); (try clear hk); (try clear hi); (try clear ho0)))
                      go_roundg kj8
                      case measure => have := HK1.out; have := HJ8.out; omega
                      case rel => exact ⟨(t276), (t280), (wrap64 (x8_1 + 1)), (by first | rfl | (simp; done) | (simp [*]; done)), H', ⟨by have := HK1.out; have := HJ8.out; omega⟩, ⟨by (with_reducible repeat (first | apply Kd.V_alloc | apply Kd.V_drewN | apply Kd.V_drew)); exact HO278.out⟩, ⟨by (with_reducible repeat (first | apply Kd.V_alloc | apply Kd.V_drewN | apply Kd.V_drew)); exact HO282.out⟩, ⟨by repeat (first | (with_reducible first | exact HB.out | apply below_alloc | apply pw_below_drewN | apply below_drew1) | exact HB.out)⟩⟩
                    · rw [if_neg c17] at H
                      have c17b0 : (t279 == t283) = false := beq_eq_false_iff_ne.mpr c17
                      have c17b1 : (t279 != t283) = true := bne_iff_ne.mpr c17
                      exact absurd H (by simp)
                  · rw [if_neg c14] at H
                    have c14b0 : ((rd l1 x8_1) == 0) = false := beq_eq_false_iff_ne.mpr c14
                    have c14b1 : ((rd l1 x8_1) != 0) = true := bne_iff_ne.mpr c14
                    by_cases c22 : (rd l1 x8_1) = 1
                    · rw [if_pos c22] at H
                      have c22b0 : ((rd l1 x8_1) == 1) = true := beq_iff_eq.mpr c22
                      have c22b1 : ((rd l1 x8_1) != 1) = false := bne_eq_false_iff_eq.mpr c22
                      clear c22
                      replace H := Option.bind_eq_some_iff.mp H
                      obtain ⟨⟨t285, t286, t289⟩, A230, H⟩ := H
                      replace H : (remontoirlaw18_PortAlone.l0 kj8 l1 t286 x7_1 (wrap64 (x8_1 + 1))) = some true := H
                      have A23 := Aside0.mk A230
                      clear A230
                      have H' := Aside0.mk H
                      clear H
                      have p275 : 0 ≤ (x8_1 : Int) := of_decide_eq_true (by first | (with_reducible assumption) | assumption)
                      have q275 : x8_1 < (l1.length : Int) := of_decide_eq_true (by first | (with_reducible assumption) | assumption)
                      obtain ⟨ad275, e275, hx275_0⟩ := Kd.at_int HR1.out x8_1 p275 q275
                      cases e275
                      replace hx275_0 := (HB.out.cell (World.block_lt_of_cell? w _ hx275_0)).trans hx275_0
                      replace p275 := eq_true p275
                      replace q275 := eq_true q275
                      have p284 : 0 ≤ (x8_1 : Int) := of_decide_eq_true (by first | (with_reducible assumption) | assumption)
                      have q284 : x8_1 < (l1.length : Int) := of_decide_eq_true (by first | (with_reducible assumption) | assumption)
                      obtain ⟨ad284, e284, hx284_0⟩ := Kd.at_int HR1.out x8_1 p284 q284
                      obtain rfl : ad275 = ad284 := (by injection e284)
                      replace hx284_0 := (HB.out.cell (World.block_lt_of_cell? w _ hx284_0)).trans hx284_0
                      replace p284 := eq_true p284
                      replace q284 := eq_true q284
                      obtain ⟨Ao24, co24, eo24⟩ := Kd.V_slice HO_5.out
                      subst eo24
                      go_wp2_with (first | ((with_reducible refine gate_callee (f := 29) rfl ?_); refine goesL_ (some 71) rfl rfl Try.func29 (by kernel_rfl) rfl #[.slice Ao24 x5_1.length co24, .int .i64 0, .int .i64 0] rfl (by (try simp only [List.map_toArray, List.map_cons, List.map_nil]); first | done | rfl | (simp only [List.length_drop, List.length_take]; rfl)) ?_; (with_reducible refine (port_Read.calls kj8 (fun k_ => True) _ _ x5_1 0 0 t285 t286 t289 _ ?side1 A23.out).mono ?_); (case side1 => exact HO_5.out); rintro e w25 ⟨v287, rfl, ho0, hb⟩; refine ⟨_, rfl, ?_⟩; have n0_ := Aside0.mk (Kd.V_below (by (with_reducible repeat (first | apply Kd.V_alloc | apply Kd.V_drewN | apply Kd.V_drew)); exact HO_5.out) hb); have n1_ := Aside0.mk (Kd.V_below (by (with_reducible repeat (first | apply Kd.V_alloc | apply Kd.V_drewN | apply Kd.V_drew)); exact HO_7.out) hb); have n2_ := Aside0.mk (Kd.V_lower (Kd.V_mono (ok' := fun k_ => True) ho0 (fun k_ hk_ => trivial)) (below_size (by repeat (first | (with_reducible first | exact HB.out | apply below_alloc | apply pw_below_drewN | apply below_drew1) | exact HB.out)))); have n3_ := Aside0.mk (below_step (by repeat (first | (with_reducible first | exact HB.out | apply below_alloc | apply pw_below_drewN | apply below_drew1) | exact HB.out)) hb); clear HO_5; clear HO_7; clear HB; have HO_5 := n0_; have HO_7 := n1_; have HO288 := n2_; have HB := n3_; clear n0_ n1_ n2_ n3_; (try clear hb); (try clear hb2); (try clear hk); (try clear hi); (try clear ho0)))
                      go_roundg kj8
                      case measure => have := HK1.out; have := HJ8.out; omega
                      case rel => exact ⟨(t286), (x7_1), (wrap64 (x8_1 + 1)), (by first | rfl | (simp; done) | (simp [*]; done)), H', ⟨by have := HK1.out; have := HJ8.out; omega⟩, ⟨by (with_reducible repeat (first | apply Kd.V_alloc | apply Kd.V_drewN | apply Kd.V_drew)); exact HO288.out⟩, ⟨by (with_reducible repeat (first | apply Kd.V_alloc | apply Kd.V_drewN | apply Kd.V_drew)); exact HO_7.out⟩, ⟨by repeat (first | (with_reducible first | exact HB.out | apply below_alloc | apply pw_below_drewN | apply below_drew1) | exact HB.out)⟩⟩
                    · rw [if_neg c22] at H
                      have c22b0 : ((rd l1 x8_1) == 1) = false := beq_eq_false_iff_ne.mpr c22
                      have c22b1 : ((rd l1 x8_1) != 1) = true := bne_iff_ne.mpr c22
                      replace H := Option.bind_eq_some_iff.mp H
                      obtain ⟨t290, A260, H⟩ := H
                      replace H : ((port_Deliver.f kj8 x7_1).bind fun t293 => (remontoirlaw18_PortAlone.l0 kj8 l1 t290 t293 (wrap64 (x8_1 + 1)))) = some true := H
                      have A26 := Aside0.mk A260
                      clear A260
                      replace H := Option.bind_eq_some_iff.mp H
                      obtain ⟨t293, A270, H⟩ := H
                      replace H : (remontoirlaw18_PortAlone.l0 kj8 l1 t290 t293 (wrap64 (x8_1 + 1))) = some true := H
                      have A27 := Aside0.mk A270
                      clear A270
                      have H' := Aside0.mk H
                      clear H
                      have p275 : 0 ≤ (x8_1 : Int) := of_decide_eq_true (by first | (with_reducible assumption) | assumption)
                      have q275 : x8_1 < (l1.length : Int) := of_decide_eq_true (by first | (with_reducible assumption) | assumption)
                      obtain ⟨ad275, e275, hx275_0⟩ := Kd.at_int HR1.out x8_1 p275 q275
                      cases e275
                      replace hx275_0 := (HB.out.cell (World.block_lt_of_cell? w _ hx275_0)).trans hx275_0
                      replace p275 := eq_true p275
                      replace q275 := eq_true q275
                      have p284 : 0 ≤ (x8_1 : Int) := of_decide_eq_true (by first | (with_reducible assumption) | assumption)
                      have q284 : x8_1 < (l1.length : Int) := of_decide_eq_true (by first | (with_reducible assumption) | assumption)
                      obtain ⟨ad284, e284, hx284_0⟩ := Kd.at_int HR1.out x8_1 p284 q284
                      obtain rfl : ad275 = ad284 := (by injection e284)
                      replace hx284_0 := (HB.out.cell (World.block_lt_of_cell? w _ hx284_0)).trans hx284_0
                      replace p284 := eq_true p284
                      replace q284 := eq_true q284
                      obtain ⟨Ao28, co28, eo28⟩ := Kd.V_slice HO_5.out
                      subst eo28
                      go_wp2_with (first | ((with_reducible refine gate_callee (f := 30) rfl ?_); refine goesL_ (some 77) rfl rfl Try.func30 (by kernel_rfl) rfl #[.slice Ao28 x5_1.length co28] rfl (by (try simp only [List.map_toArray, List.map_cons, List.map_nil]); first | done | rfl | (simp only [List.length_drop, List.length_take]; rfl)) ?_; (with_reducible refine (port_Deliver.calls kj8 (fun k_ => True) _ _ x5_1 t290 _ ?side1 A26.out).mono ?_); (case side1 => exact HO_5.out); rintro e w29 ⟨v291, rfl, ho0, hb⟩; refine ⟨_, rfl, ?_⟩; have n0_ := Aside0.mk (Kd.V_below (by (with_reducible repeat (first | apply Kd.V_alloc | apply Kd.V_drewN | apply Kd.V_drew)); exact HO_5.out) hb); have n1_ := Aside0.mk (Kd.V_below (by (with_reducible repeat (first | apply Kd.V_alloc | apply Kd.V_drewN | apply Kd.V_drew)); exact HO_7.out) hb); have n2_ := Aside0.mk (Kd.V_lower (Kd.V_mono (ok' := fun k_ => True) ho0 (fun k_ hk_ => trivial)) (below_size (by repeat (first | (with_reducible first | exact HB.out | apply below_alloc | apply pw_below_drewN | apply below_drew1) | exact HB.out)))); have n3_ := Aside0.mk (below_step (by repeat (first | (with_reducible first | exact HB.out | apply below_alloc | apply pw_below_drewN | apply below_drew1) | exact HB.out)) hb); clear HO_5; clear HO_7; clear HB; have HO_5 := n0_; have HO_7 := n1_; have HO292 := n2_; have HB := n3_; clear n0_ n1_ n2_ n3_; (try clear hb); (try clear hb2); (try clear hk); (try clear hi); (try clear ho0); obtain ⟨Ao30, co30, eo30⟩ := Kd.V_slice HO_7.out; subst eo30) | ((with_reducible refine gate_callee (f := 30) rfl ?_); refine goesL_ (some 79) rfl rfl Try.func30 (by kernel_rfl) rfl #[.slice Ao30 x7_1.length co30] rfl (by (try simp only [List.map_toArray, List.map_cons, List.map_nil]); first | done | rfl | (simp only [List.length_drop, List.length_take]; rfl)) ?_; (with_reducible refine (port_Deliver.calls kj8 (fun k_ => True) _ _ x7_1 t293 _ ?side1 A27.out).mono ?_); (case side1 => exact HO_7.out); rintro e w31 ⟨v294, rfl, ho0, hb⟩; refine ⟨_, rfl, ?_⟩; have n0_ := Aside0.mk (Kd.V_below (by (with_reducible repeat (first | apply Kd.V_alloc | apply Kd.V_drewN | apply Kd.V_drew)); exact HO_5.out) hb); have n1_ := Aside0.mk (Kd.V_below (by (with_reducible repeat (first | apply Kd.V_alloc | apply Kd.V_drewN | apply Kd.V_drew)); exact HO_7.out) hb); have n2_ := Aside0.mk (Kd.V_below (by (with_reducible repeat (first | apply Kd.V_alloc | apply Kd.V_drewN | apply Kd.V_drew)); exact HO292.out) hb); have n3_ := Aside0.mk (Kd.V_lower (Kd.V_mono (ok' := fun k_ => True) ho0 (fun k_ hk_ => trivial)) (below_size (by repeat (first | (with_reducible first | exact HB.out | apply below_alloc | apply pw_below_drewN | apply below_drew1) | exact HB.out)))); have n4_ := Aside0.mk (below_step (by repeat (first | (with_reducible first | exact HB.out | apply below_alloc | apply pw_below_drewN | apply below_drew1) | exact HB.out)) hb); clear HO_5; clear HO_7; clear HO292; clear HB; have HO_5 := n0_; have HO_7 := n1_; have HO292 := n2_; have HO295 := n3_; have HB := n4_; clear n0_ n1_ n2_ n3_ n4_; (try clear hb); (try clear hb2); (try clear hk); (try clear hi); (try clear ho0)))
                      go_roundg kj8
                      case measure => have := HK1.out; have := HJ8.out; omega
                      case rel => exact ⟨(t290), (t293), (wrap64 (x8_1 + 1)), (by first | rfl | (simp; done) | (simp [*]; done)), H', ⟨by have := HK1.out; have := HJ8.out; omega⟩, ⟨by (with_reducible repeat (first | apply Kd.V_alloc | apply Kd.V_drewN | apply Kd.V_drew)); exact HO292.out⟩, ⟨by (with_reducible repeat (first | apply Kd.V_alloc | apply Kd.V_drewN | apply Kd.V_drew)); exact HO295.out⟩, ⟨by repeat (first | (with_reducible first | exact HB.out | apply below_alloc | apply pw_below_drewN | apply below_drew1) | exact HB.out)⟩⟩
                · rw [if_neg c13] at H
                  exact absurd H (by simp)
              · rw [if_neg c12] at H
                exact absurd H (by simp)
            · replace c11 := Bool.eq_false_iff.mpr c11
              subst c11
              have H1 : ((port_Right.f kj8 x5_1).bind fun t272 => (if t272 = true then ((port_Right.f kj8 x7_1).bind fun t273 => (if t273 = true then ((remontoirlaw18_knows.f kj8).bind fun t274 => (some t274)) else (some false))) else (some false))) = some true := by rw [if_neg (show ¬ (false = true) by decide)] at H; exact H
              clear H
              have H := H1
              clear H1
              replace H := Option.bind_eq_some_iff.mp H
              obtain ⟨t272, A320, H⟩ := H
              replace H : (if t272 = true then ((port_Right.f kj8 x7_1).bind fun t273 => (if t273 = true then ((remontoirlaw18_knows.f kj8).bind fun t274 => (some t274)) else (some false))) else (some false)) = some true := H
              have A32 := Aside0.mk A320
              clear A320
              by_cases c33 : t272 = true
              · subst c33
                have H1 : ((port_Right.f kj8 x7_1).bind fun t273 => (if t273 = true then ((remontoirlaw18_knows.f kj8).bind fun t274 => (some t274)) else (some false))) = some true := by rw [if_pos rfl] at H; exact H
                clear H
                have H := H1
                clear H1
                replace H := Option.bind_eq_some_iff.mp H
                obtain ⟨t273, A340, H⟩ := H
                replace H : (if t273 = true then ((remontoirlaw18_knows.f kj8).bind fun t274 => (some t274)) else (some false)) = some true := H
                have A34 := Aside0.mk A340
                clear A340
                by_cases c35 : t273 = true
                · subst c35
                  have H1 : ((remontoirlaw18_knows.f kj8).bind fun t274 => (some t274)) = some true := by rw [if_pos rfl] at H; exact H
                  clear H
                  have H := H1
                  clear H1
                  replace H := Option.bind_eq_some_iff.mp H
                  obtain ⟨t274, A360, H⟩ := H
                  replace H : (some t274) = some true := H
                  have A36 := Aside0.mk A360
                  clear A360
                  have HR_ := Aside0.mk (Option.some.inj H)
                  clear H
                  obtain ⟨Ao37, co37, eo37⟩ := Kd.V_slice HO_5.out
                  subst eo37
                  go_wp2_with (first | ((with_reducible refine gate_callee (f := 31) rfl ?_); refine goesL_ (some 81) rfl rfl Try.func31 (by kernel_rfl) rfl #[.slice Ao37 x5_1.length co37] rfl (by (try simp only [List.map_toArray, List.map_cons, List.map_nil]); first | done | rfl | (simp only [List.length_drop, List.length_take]; rfl)) ?_; (with_reducible refine (port_Right.calls kj8 _ _ x5_1 true _ ?side1 ?side2 A32.out).mono ?_); (case side1 => repeat (first | exact (Kd.V_reads' HO_5.out).2.2 | (with_reducible refine Kd.C_alloc ?_ _) | (with_reducible refine Kd.C_drewN ?_ _) | (with_reducible refine Kd.C_drew ?_))); (case side2 => exact (Kd.V_reads' HO_5.out).2.1); rintro e w38 ⟨rfl, hb⟩; refine ⟨_, rfl, ?_⟩; have n0_ := Aside0.mk (Kd.V_below (by (with_reducible repeat (first | apply Kd.V_alloc | apply Kd.V_drewN | apply Kd.V_drew)); exact HO_5.out) hb); have n1_ := Aside0.mk (Kd.V_below (by (with_reducible repeat (first | apply Kd.V_alloc | apply Kd.V_drewN | apply Kd.V_drew)); exact HO_7.out) hb); have n2_ := Aside0.mk (below_step (by repeat (first | (with_reducible first | exact HB.out | apply below_alloc | apply pw_below_drewN | apply below_drew1) | exact HB.out)) hb); clear HO_5; clear HO_7; clear HB; have HO_5 := n0_; have HO_7 := n1_; have HB := n2_; clear n0_ n1_ n2_; (try clear hb); (try clear hb2); (try clear hk); (try clear hi); obtain ⟨Ao39, co39, eo39⟩ := Kd.V_slice HO_7.out; subst eo39) | (go_at_call 31; (with_reducible refine (port_Right.calls kj8 _ _ x7_1 true _ ?side1 ?side2 A34.out).mono ?_); (case side1 => repeat (first | exact (Kd.V_reads' HO_7.out).2.2 | (with_reducible refine Kd.C_alloc ?_ _) | (with_reducible refine Kd.C_drewN ?_ _) | (with_reducible refine Kd.C_drew ?_))); (case side2 => exact (Kd.V_reads' HO_7.out).2.1); rintro e w40 ⟨rfl, hb⟩; have n0_ := Aside0.mk (Kd.V_below (by (with_reducible repeat (first | apply Kd.V_alloc | apply Kd.V_drewN | apply Kd.V_drew)); exact HO_5.out) hb); have n1_ := Aside0.mk (Kd.V_below (by (with_reducible repeat (first | apply Kd.V_alloc | apply Kd.V_drewN | apply Kd.V_drew)); exact HO_7.out) hb); have n2_ := Aside0.mk (below_step (by repeat (first | (with_reducible first | exact HB.out | apply below_alloc | apply pw_below_drewN | apply below_drew1) | exact HB.out)) hb); clear HO_5; clear HO_7; clear HB; have HO_5 := n0_; have HO_7 := n1_; have HB := n2_; clear n0_ n1_ n2_; (try clear hb); (try clear hb2); (try clear hk); (try clear hi)) | (go_at_call 27; (with_reducible refine (remontoirlaw18_knows.calls kj8  t274 _ A36.out).mono ?_); rintro e w41 ⟨rfl, hb⟩; have n0_ := Aside0.mk (Kd.V_below (by (with_reducible repeat (first | apply Kd.V_alloc | apply Kd.V_drewN | apply Kd.V_drew)); exact HO_5.out) hb); have n1_ := Aside0.mk (Kd.V_below (by (with_reducible repeat (first | apply Kd.V_alloc | apply Kd.V_drewN | apply Kd.V_drew)); exact HO_7.out) hb); have n2_ := Aside0.mk (below_step (by repeat (first | (with_reducible first | exact HB.out | apply below_alloc | apply pw_below_drewN | apply below_drew1) | exact HB.out)) hb); clear HO_5; clear HO_7; clear HB; have HO_5 := n0_; have HO_7 := n1_; have HB := n2_; clear n0_ n1_ n2_; (try clear hb); (try clear hb2); (try clear hk); (try clear hi)))
                  go_ret
                  exact ⟨by first | rfl | (rw [HR_.out] <;> rfl) | (simp [errW_none, errW_some] <;> rfl) | (simp [*, errW_none, errW_some] <;> rfl), by repeat (first | (with_reducible first | exact HB.out | apply below_alloc | apply pw_below_drewN | apply below_drew1) | exact HB.out)⟩
                · replace c35 := Bool.eq_false_iff.mpr c35
                  subst c35
                  have H1 : (some false) = some true := by rw [if_neg (show ¬ (false = true) by decide)] at H; exact H
                  clear H
                  have H := H1
                  clear H1
                  exact absurd H (by simp)
              · replace c33 := Bool.eq_false_iff.mpr c33
                subst c33
                have H1 : (some false) = some true := by rw [if_neg (show ¬ (false = true) by decide)] at H; exact H
                clear H
                have H := H1
                clear H1
                exact absurd H (by simp)
  · rw [if_neg c4] at H
    have c4b0 : (t268 == 0) = false := beq_eq_false_iff_ne.mpr c4
    have c4b1 : (t268 != 0) = true := bne_iff_ne.mpr c4
    by_cases c42 : (t267.length : Int) = 0
    · rw [if_pos c42] at H
      have c42b0 : ((t267.length : Int) == 0) = true := beq_iff_eq.mpr c42
      have c42b1 : ((t267.length : Int) != 0) = false := bne_eq_false_iff_eq.mpr c42
      clear c42
      replace H := Option.bind_eq_some_iff.mp H
      obtain ⟨t271, A430, H⟩ := H
      replace H : (some t271) = some true := H
      have A43 := Aside0.mk A430
      clear A430
      have HR_ := Aside0.mk (Option.some.inj H)
      clear H
      go_enter Try.func8, Try.ntmps8
      go_wp2_with (first | ((with_reducible refine gate_dst (N := 19) rfl ?_); refine Kd.R_lit k51 _ 51 ?hg (N := 19) ?hd (xs := ([(⟨1, 0, a0⟩ : S51)] : List (S51))) (inner := [.int .i64 1, .int .i64 0, .int .i64 a0]) (ok := fun _ => True) (okp := fun _ => True) ?hr ?hp (fun _ hk => hk) trivial (Below.refl _ _) (Nat.le_refl _) (by simp) ?_; (case hd => rfl); (case hg => rfl); (case hr => first | (go_simp; done) | (go_simp; rfl)); (case hp => exact (Reps.c3 (show Kd.M k51 _ _ _ (⟨1, 0, a0⟩ : S51) [.int .i64 1, .int .i64 0, .int .i64 a0] from (k51_mkM _ _ _ (⟨1, 0, a0⟩ : S51) )) (Reps.none _ _))); intro v265 w44 ho45 hb hg_ hnew_; clear hg_ hnew_; (first | rw [← Ny264.out] at ho45 | (simp only [Int.reduceToNat] at ho45; rw [← Ny264.out] at ho45)); have n0_ := Aside0.mk (Kd.R_lower ho45 (below_size (by repeat (first | (with_reducible first | exact HB.out | apply below_alloc | apply pw_below_drewN | apply below_drew1) | exact HB.out)))); have n1_ := Aside0.mk (below_step (by repeat (first | (with_reducible first | exact HB.out | apply below_alloc | apply pw_below_drewN | apply below_drew1) | exact HB.out)) hb); clear HB; have HO266 := n0_; have HB := n1_; clear n0_ n1_; clear hb ho45; obtain ⟨Ao46, co46, eo46⟩ := Kd.R_slice HO266.out; subst eo46) | ((with_reducible refine gate_callee (f := 26) rfl ?_); refine goesL_ (some 20) rfl rfl Try.func26 (by kernel_rfl) rfl #[.slice Ao46 y264.length co46] rfl (by (try simp only [List.map_toArray, List.map_cons, List.map_nil]); first | done | rfl | (simp only [List.length_drop, List.length_take]; rfl)) ?_; (with_reducible refine (port_Open.calls k _ _ y264 t267 t268 _ ?side1 ?side2 A3.out).mono ?_); (case side1 => repeat (first | exact (Kd.R_reads' HO266.out).2.2 | (with_reducible refine Kd.C_alloc ?_ _) | (with_reducible refine Kd.C_drewN ?_ _) | (with_reducible refine Kd.C_drew ?_))); (case side2 => exact (Kd.R_reads' HO266.out).2.1); rintro e w47 ⟨v269, rfl, ho0, hb⟩; refine ⟨_, rfl, ?_⟩; have n0_ := Aside0.mk (Kd.R_below (by (with_reducible repeat (first | apply Kd.R_alloc | apply Kd.R_drewN | apply Kd.R_drew)); exact HO266.out) hb); have n1_ := Aside0.mk (Kd.N_lower (Kd.N_mono (ok' := fun k_ => some k_ ≠ (.slice Ao46 y264.length co46 : Value).ownBlock) (Kd.S_N (Kd.S_bound ho0)) (fun k_ hk_ => (Kd.fresh' (Kd.R_lt (by (with_reducible repeat (first | apply Kd.R_alloc | apply Kd.R_drewN | apply Kd.R_drew)); exact HO266.out)) k_ hk_.2.1))) (below_size (by repeat (first | (with_reducible first | exact HB.out | apply below_alloc | apply pw_below_drewN | apply below_drew1) | exact HB.out)))); have n2_ := Aside0.mk (below_step (by repeat (first | (with_reducible first | exact HB.out | apply below_alloc | apply pw_below_drewN | apply below_drew1) | exact HB.out)) hb); clear HO266; clear HB; have HO266 := n0_; have HO270 := n1_; have HB := n2_; clear n0_ n1_ n2_; (try clear hb); (try clear hb2); (try clear hk); (try clear hi); (try clear ho0); obtain ⟨Ao48, co48, eo48⟩ := Kd.N_slice HO270.out; subst eo48) | (go_at_call 27; (with_reducible refine (remontoirlaw18_knows.calls k  t271 _ A43.out).mono ?_); rintro e w49 ⟨rfl, hb⟩; have n0_ := Aside0.mk (Kd.R_below (by (with_reducible repeat (first | apply Kd.R_alloc | apply Kd.R_drewN | apply Kd.R_drew)); exact HO266.out) hb); have n1_ := Aside0.mk (Kd.N_below (by (with_reducible repeat (first | apply Kd.N_alloc | apply Kd.N_drewN | apply Kd.N_drew)); exact HO270.out) hb); have n2_ := Aside0.mk (below_step (by repeat (first | (with_reducible first | exact HB.out | apply below_alloc | apply pw_below_drewN | apply below_drew1) | exact HB.out)) hb); clear HO266; clear HO270; clear HB; have HO266 := n0_; have HO270 := n1_; have HB := n2_; clear n0_ n1_ n2_; (try clear hb); (try clear hb2); (try clear hk); (try clear hi)))
      go_ret
      exact ⟨by first | rfl | (rw [HR_.out] <;> rfl) | (simp [errW_none, errW_some] <;> rfl) | (simp [*, errW_none, errW_some] <;> rfl), by repeat (first | (with_reducible first | exact HB.out | apply below_alloc | apply pw_below_drewN | apply below_drew1) | exact HB.out)⟩
    · rw [if_neg c42] at H
      have c42b0 : ((t267.length : Int) == 0) = false := beq_eq_false_iff_ne.mpr c42
      have c42b1 : ((t267.length : Int) != 0) = true := bne_iff_ne.mpr c42
      have c42b2 : ¬ (t267 = []) := fun h_ => c42 (by rw [h_]; rfl)
      exact absurd H (by simp)

/-- The statement of remontoirlaw18_PortAlone over plain data. -/
def remontoirlaw18_PortAlone.Pure : Prop := ∀ (a0 : Int) (l1 : List Int), (Lit.int .i64 a0).wf = true → (l1.length ≤ 9223372036854775807 ∧ ∀ x ∈ l1, (Lit.int .u8 x).wf = true) → ∃ k, remontoirlaw18_PortAlone.f k a0 l1 = some true

end Go.Proofs.Yteddflcloeelhaa.FAlone
