-- Written by the session (wip/tools) for this claim: functions of the program as Lean functions, and their contracts.
import Derived.Test.YteddflcloeelhaaZXShort
import Derived.Test.YteddflcloeelhaaZFDelivx0
import Derived.Test.YteddflcloeelhaaZFDelivx5
import Derived.Test.YteddflcloeelhaaZFDelivx7
import Derived.Test.YteddflcloeelhaaZFDelivx9
import Derived.Test.YteddflcloeelhaaZFDelivx10
import Derived.Test.YteddflcloeelhaaZFDelivx11
import Derived.Test.YteddflcloeelhaaZFDelivx12
namespace Go.Proofs.Yteddflcloeelhaa.FDeliv
open Go.RowKit Go.Proofs.YteddflcloeelhaaW.PrintWords Go.Proofs.YteddflcloeelhaaW.PrintLast Go.Proofs.YteddflcloeelhaaW.PrintMore
attribute [local go_sem] max2_int min2_int max_two min_two max_three min_three max_four min_four   -- for this text's walks alone
set_option linter.unusedVariables false
set_option linter.unusedSimpArgs false

/-! ### remontoirlaw18_PortDelivers: function 10 -/
def remontoirlaw18_PortDelivers.l0 : Nat → List (S76) → List (S63) → Int → Option (Bool)
  | 0, _, _, _ => none
  | k + 1, x3, x4, x5 => if x5 < (x4.length : Int) then (if 0 ≤ x5 then ((remontoirref18_Deliver.f ((rd_T63 x4 x5).f0.f0) ((rd_T63 x4 x5).f0.f1) ((rd_T63 x4 x5).f0.f2) ((rd_T63 x4 x5).f1) ((rd_T63 x4 x5).f2)).bind fun bt383 => (remontoirlaw18_PortDelivers.l0 k x3 (x4.set (x5 : Int).toNat (⟨(⟨bt383.1, bt383.2.1, bt383.2.2.1⟩ : S51), bt383.2.2.2.1, bt383.2.2.2.2⟩ : S63)) (wrap64 (x5 + 1)))) else (none)) else ((remontoirlaw18_right.f k x3).bind fun t393 => (if t393 = true then ((remontoirlaw18_As.f k x3).bind fun t394 => ((remontoirlaw18_Same.f k t394 x4).bind fun t397 => (if t397 = true then ((remontoirlaw18_knows.f k).bind fun t398 => (some t398)) else (some false)))) else (some false)))
def remontoirlaw18_PortDelivers.f (k : Nat) (l0 : List (S76)) : Option (Bool) := (remontoirlaw18_great.f k l0).bind fun t371 => (if t371 = true then ((remontoirlaw18_knows.f k).bind fun t372 => (some t372)) else ((port_Deliver.f k l0).bind fun t373 => ((remontoirlaw18_right.f k l0).bind fun t376 => (if t376 = true then ((remontoirlaw18_As.f k l0).bind fun t379 => (remontoirlaw18_PortDelivers.l0 k t373 t379 0)) else ((remontoirlaw18_stays.f k t373 l0).bind fun t377 => (if t377 = true then ((remontoirlaw18_knows.f k).bind fun t378 => (some t378)) else (some false)))))))
theorem remontoirlaw18_PortDelivers.mono_l : ∀ k, (∀ y0 y1 y2, LeO (remontoirlaw18_PortDelivers.l0 k y0 y1 y2) (remontoirlaw18_PortDelivers.l0 (k + 1) y0 y1 y2))
  | 0 => fun _ _ _ r h => by simp [remontoirlaw18_PortDelivers.l0] at h
  | k + 1 => by
    have ih0 := remontoirlaw18_PortDelivers.mono_l k
    · intro y0 y1 y2
      unfold remontoirlaw18_PortDelivers.l0
      repeat' first | (with_reducible exact ih0 _ _ _) | (with_reducible exact remontoirlaw18_As.mono _ _) | (with_reducible exact remontoirlaw18_Same.mono _ _ _) | (with_reducible exact remontoirlaw18_knows.mono _) | (with_reducible exact remontoirlaw18_right.mono _ _) | (with_reducible exact LeO.refl _) | (with_reducible refine LeO.ite ?_ ?_) | (with_reducible refine LeO.bind ?_ (fun _ => ?_))
theorem remontoirlaw18_PortDelivers.mono : ∀ a0 k, LeO (remontoirlaw18_PortDelivers.f k a0) (remontoirlaw18_PortDelivers.f (k + 1) a0) := by
  intro a0 k
  have ih0 := remontoirlaw18_PortDelivers.mono_l k
  unfold remontoirlaw18_PortDelivers.f
  repeat' first | (with_reducible exact ih0 _ _ _) | (with_reducible exact port_Deliver.mono _ _) | (with_reducible exact remontoirlaw18_As.mono _ _) | (with_reducible exact remontoirlaw18_great.mono _ _) | (with_reducible exact remontoirlaw18_knows.mono _) | (with_reducible exact remontoirlaw18_right.mono _ _) | (with_reducible exact remontoirlaw18_stays.mono _ _ _) | (with_reducible exact LeO.refl _) | (with_reducible refine LeO.ite ?_ ?_) | (with_reducible refine LeO.bind ?_ (fun _ => ?_))
set_option maxHeartbeats 8000000 in
set_option maxRecDepth 100000 in
theorem remontoirlaw18_PortDelivers.calls (k : Nat) (A0 : Option Addr) (c0 : Nat) (l0 : List (S76)) (w : World) (hr0 : Kd.C k76 w A0 l0.length l0) (hc0 : l0.length ≤ c0) (h : remontoirlaw18_PortDelivers.f k l0 = some true) :
    Calls Try.prog 10 #[.slice A0 l0.length c0] w fun e w' => e = .returned (.bool true) ∧ Below w.heap.size w w' := by
  have hu63 := Try.underlying63
  have HR0 := Aside0.mk hr0
  have HC0 := Aside0.mk hc0
  clear hr0 hc0
  have HB := Aside0.mk (Below.refl w.heap.size w)
  have H : ((remontoirlaw18_great.f k l0).bind fun t371 => (if t371 = true then ((remontoirlaw18_knows.f k).bind fun t372 => (some t372)) else ((port_Deliver.f k l0).bind fun t373 => ((remontoirlaw18_right.f k l0).bind fun t376 => (if t376 = true then ((remontoirlaw18_As.f k l0).bind fun t379 => (remontoirlaw18_PortDelivers.l0 k t373 t379 0)) else ((remontoirlaw18_stays.f k t373 l0).bind fun t377 => (if t377 = true then ((remontoirlaw18_knows.f k).bind fun t378 => (some t378)) else (some false)))))))) = some true := h
  clear h
  replace H := Option.bind_eq_some_iff.mp H
  obtain ⟨t371, A20, H⟩ := H
  replace H : (if t371 = true then ((remontoirlaw18_knows.f k).bind fun t372 => (some t372)) else ((port_Deliver.f k l0).bind fun t373 => ((remontoirlaw18_right.f k l0).bind fun t376 => (if t376 = true then ((remontoirlaw18_As.f k l0).bind fun t379 => (remontoirlaw18_PortDelivers.l0 k t373 t379 0)) else ((remontoirlaw18_stays.f k t373 l0).bind fun t377 => (if t377 = true then ((remontoirlaw18_knows.f k).bind fun t378 => (some t378)) else (some false))))))) = some true := H
  have A2 := Aside0.mk A20
  clear A20
  by_cases c3 : t371 = true
  · subst c3
    have H1 : ((remontoirlaw18_knows.f k).bind fun t372 => (some t372)) = some true := by rw [if_pos rfl] at H; exact H
    clear H
    have H := H1
    clear H1
    replace H := Option.bind_eq_some_iff.mp H
    obtain ⟨t372, A40, H⟩ := H
    replace H : (some t372) = some true := H
    have A4 := Aside0.mk A40
    clear A40
    have HR_ := Aside0.mk (Option.some.inj H)
    clear H
    go_enter Try.func10, Try.ntmps10
    go_wp2_with (first | ((with_reducible refine gate_callee (f := 32) rfl ?_); refine goesL_ (some 7) rfl rfl Try.func32 (by kernel_rfl) rfl #[.slice A0 l0.length c0] rfl (by (try simp only [List.map_toArray, List.map_cons, List.map_nil]); rfl) ?_; (with_reducible refine (remontoirlaw18_great.calls k _ _ l0 true _ ?side1 ?side2 A2.out).mono ?_); (case side1 => repeat ((exact HR0.out))); (case side2 => exact HC0.out); rintro e w' ⟨rfl, ⟨nd, rfl⟩⟩; refine ⟨_, rfl, ?_⟩) | ((with_reducible refine gate_callee (f := 27) rfl ?_); refine goesL_ (some 8) rfl rfl Try.func27 (by kernel_rfl) rfl #[] rfl (by (try simp only [List.map_toArray, List.map_cons, List.map_nil]); done) ?_; (with_reducible refine (remontoirlaw18_knows.calls k  t372 _ A4.out).mono ?_); rintro e w5 ⟨rfl, hb⟩; refine ⟨_, rfl, ?_⟩; have n0_ := Aside0.mk (below_step (by repeat ((with_reducible first | exact HB.out | apply pw_below_drewN))) hb); clear HB; have HB := n0_; clear n0_; (try clear hb); (try clear hb2); (try clear hk); (try clear hi)))
    go_ret
    exact ⟨by (rw [HR_.out] <;> rfl), by repeat ((with_reducible (exact HB.out)))⟩
  · replace c3 := Bool.eq_false_iff.mpr c3
    subst c3
    have H1 : ((port_Deliver.f k l0).bind fun t373 => ((remontoirlaw18_right.f k l0).bind fun t376 => (if t376 = true then ((remontoirlaw18_As.f k l0).bind fun t379 => (remontoirlaw18_PortDelivers.l0 k t373 t379 0)) else ((remontoirlaw18_stays.f k t373 l0).bind fun t377 => (if t377 = true then ((remontoirlaw18_knows.f k).bind fun t378 => (some t378)) else (some false)))))) = some true := by rw [if_neg (show ¬ (false = true) by decide)] at H; exact H
    clear H
    have H := H1
    clear H1
    replace H := Option.bind_eq_some_iff.mp H
    obtain ⟨t373, A60, H⟩ := H
    replace H : ((remontoirlaw18_right.f k l0).bind fun t376 => (if t376 = true then ((remontoirlaw18_As.f k l0).bind fun t379 => (remontoirlaw18_PortDelivers.l0 k t373 t379 0)) else ((remontoirlaw18_stays.f k t373 l0).bind fun t377 => (if t377 = true then ((remontoirlaw18_knows.f k).bind fun t378 => (some t378)) else (some false))))) = some true := H
    have A6 := Aside0.mk A60
    clear A60
    replace H := Option.bind_eq_some_iff.mp H
    obtain ⟨t376, A70, H⟩ := H
    replace H : (if t376 = true then ((remontoirlaw18_As.f k l0).bind fun t379 => (remontoirlaw18_PortDelivers.l0 k t373 t379 0)) else ((remontoirlaw18_stays.f k t373 l0).bind fun t377 => (if t377 = true then ((remontoirlaw18_knows.f k).bind fun t378 => (some t378)) else (some false)))) = some true := H
    have A7 := Aside0.mk A70
    clear A70
    by_cases c8 : t376 = true
    · subst c8
      have H1 : ((remontoirlaw18_As.f k l0).bind fun t379 => (remontoirlaw18_PortDelivers.l0 k t373 t379 0)) = some true := by rw [if_pos rfl] at H; exact H
      clear H
      have H := H1
      clear H1
      replace H := Option.bind_eq_some_iff.mp H
      obtain ⟨t379, A90, H⟩ := H
      replace H : (remontoirlaw18_PortDelivers.l0 k t373 t379 0) = some true := H
      have A9 := Aside0.mk A90
      clear A90
      have H' := Aside0.mk H
      clear H
      go_enter Try.func10, Try.ntmps10
      go_wp2_with (first | ((with_reducible refine gate_callee (f := 32) rfl ?_); refine goesL_ (some 7) rfl rfl Try.func32 (by kernel_rfl) rfl #[.slice A0 l0.length c0] rfl (by (try simp only [List.map_toArray, List.map_cons, List.map_nil]); rfl) ?_; (with_reducible refine (remontoirlaw18_great.calls k _ _ l0 false _ ?side1 ?side2 A2.out).mono ?_); (case side1 => repeat ((exact HR0.out))); (case side2 => exact HC0.out); rintro e w' ⟨rfl, ⟨nd, rfl⟩⟩; refine ⟨_, rfl, ?_⟩) | ((with_reducible refine gate_callee (f := 30) rfl ?_); refine goesL_ (some 10) rfl rfl Try.func30 (by kernel_rfl) rfl #[.slice A0 l0.length c0] rfl (by (try simp only [List.map_toArray, List.map_cons, List.map_nil]); rfl) ?_; (with_reducible refine (port_Deliver.calls k (fun k_ => k_ < w.heap.size) _ _ l0 t373 _ ?side1 A6.out).mono ?_); (case side1 => exact Kd.V_mk HC0.out (Kd.F_below (Kd.C_F k76_heap HR0.out) (by repeat ((with_reducible first | exact HB.out | apply pw_below_drewN))))); rintro e w10 ⟨v374, rfl, ho0, hb⟩; refine ⟨_, rfl, ?_⟩; have n0_ := Aside0.mk (Kd.V_lower (Kd.V_mono (ok' := fun k_ => True) ho0 (fun k_ hk_ => trivial)) (below_size (by repeat ((with_reducible first | exact HB.out | apply pw_below_drewN))))); have n1_ := Aside0.mk (below_step (by repeat ((with_reducible first | exact HB.out | apply pw_below_drewN))) hb); clear HB; have HO375 := n0_; have HB := n1_; clear n0_ n1_; (try clear hb); (try clear hb2); (try clear hk); (try clear hi); (try clear ho0)) | ((with_reducible refine gate_callee (f := 33) rfl ?_); refine goesL_ (some 12) rfl rfl Try.func33 (by kernel_rfl) rfl #[.slice A0 l0.length c0] rfl (by (try simp only [List.map_toArray, List.map_cons, List.map_nil]); rfl) ?_; (with_reducible refine (remontoirlaw18_right.calls k _ _ l0 true _ ?side1 ?side2 A7.out).mono ?_); (case side1 => repeat ((exact (Kd.C_below HR0.out HB.out)))); (case side2 => exact HC0.out); rintro e w11 ⟨rfl, hb⟩; refine ⟨_, rfl, ?_⟩; replace HO375 := vb_ HO375 hb; replace HB := hb_ HB hb; (try clear hb); (try clear hb2); (try clear hk); (try clear hi)) | ((with_reducible refine gate_callee (f := 35) rfl ?_); refine goesL_ (some 21) rfl rfl Try.func35 (by kernel_rfl) rfl #[.slice A0 l0.length c0] rfl (by (try simp only [List.map_toArray, List.map_cons, List.map_nil]); rfl) ?_; (with_reducible refine (remontoirlaw18_As.calls k _ _ l0 t379 _ ?side1 ?side2 A9.out).mono ?_); (case side1 => repeat ((exact (Kd.C_below HR0.out HB.out)))); (case side2 => exact HC0.out); rintro e w12 ⟨v380, rfl, ho0, hb⟩; refine ⟨_, rfl, ?_⟩; have n0_ := Aside0.mk (Kd.V_elder' HO375.out (by (exact Kd.N_base (Kd.S_N ho0))) hb); have n1_ := Aside0.mk (Kd.N_lower (Kd.N_mono (ok' := fun k_ => True) (Kd.S_N (Kd.S_bound ho0)) (fun k_ hk_ => trivial)) (below_size HB.out)); clear HO375; have HO375 := n0_; have HO381 := n1_; clear n0_ n1_; replace HB := hb_ HB hb; (try clear hb); (try clear hb2); (try clear hk); (try clear hi); (try clear ho0)))
      go_loopg [5] k (fun kq v5 w' => ∃ (x4_1 : List (S63)) (x5_1 : Int), v5 = .int .i64 x5_1 ∧ Aside0 (remontoirlaw18_PortDelivers.l0 kq t373 x4_1 x5_1 = some true) ∧ Aside0 (kq ≤ k) ∧ Aside0 (Kd.V k76 76 w' w.heap.size (fun k_ => some k_ ≠ (v380 : Value).ownBlock) v374 t373) ∧ Aside0 (Kd.N k63 63 w' w.heap.size (fun _ => True) v380 x4_1) ∧ Aside0 (Below w.heap.size w w'))
      case atStart => exact ⟨(t379), (0), (by rfl), H', ⟨Nat.le_refl _⟩, ⟨by exact Kd.V_mono HO375.out (fun _ hk => hk.2)⟩, ⟨HO381.out⟩, ⟨HB.out⟩⟩
      case round =>
        clear H'
        try clear c1
        try clear c2
        try clear p2
        try clear c3
        try clear c8
        try clear c10
        obtain ⟨x4_1, x5_1, rfl, HA, HK1, HO_3, HO_4, HB⟩ := hrel
        cases gk with
        | zero => exact absurd HA.out (by simp [remontoirlaw18_PortDelivers.l0])
        | succ k1 =>
          have H := HA.out
          clear HA
          simp only [remontoirlaw18_PortDelivers.l0] at H
          by_cases c13 : x5_1 < (x4_1.length : Int)
          · rw [if_pos c13] at H
            have c13b0 : decide (x5_1 < (x4_1.length : Int)) = true := decide_eq_true c13
            clear c13
            by_cases c14 : 0 ≤ x5_1
            · rw [if_pos c14] at H
              have c14b0 : decide (0 ≤ x5_1) = true := decide_eq_true c14
              clear c14
              replace H := Option.bind_eq_some_iff.mp H
              obtain ⟨⟨t383, t384, t385, t386, t389⟩, A150, H⟩ := H
              replace H : (remontoirlaw18_PortDelivers.l0 k1 t373 (x4_1.set (x5_1 : Int).toNat (⟨(⟨t383, t384, t385⟩ : S51), t386, t389⟩ : S63)) (wrap64 (x5_1 + 1))) = some true := H
              have A15 := Aside0.mk A150
              clear A150
              obtain ⟨y392, hy392⟩ : ∃ y_ : List (S63), y_ = (x4_1.set (x5_1 : Int).toNat (⟨(⟨t383, t384, t385⟩ : S51), t386, t389⟩ : S63)) := ⟨_, rfl⟩
              replace H : (remontoirlaw18_PortDelivers.l0 k1 t373 y392 (wrap64 (x5_1 + 1))) = some true := by (rw [hy392]; with_reducible exact H)
              have Ny392 := Aside0.mk hy392
              clear hy392
              have H' := Aside0.mk H
              clear H
              obtain ⟨Ao17, co17, eo17⟩ := Kd.N_slice HO_4.out
              subst eo17
              have p382 : 0 ≤ (x5_1 : Int) := of_decide_eq_true (by (with_reducible assumption))
              have q382 : x5_1 < (x4_1.length : Int) := of_decide_eq_true (by (with_reducible assumption))
              obtain ⟨ad382, A382_3, c382_3, A382_4, c382_4, e382, hx382_0, hx382_1, hx382_2, hx382_3, hx382_4, hl382_3, hi382_3, hl382_4, hi382_4⟩ := at_T63 (Kd.N_reads' HO_4.out).2.2 x5_1 p382 q382
              cases e382
              obtain ⟨ce382, hce382, hMe382, hcc382⟩ := Kd.N_get HO_4.out z63 x5_1 p382 q382
              obtain ⟨ua382_3, uc382_3, ua382_4, uc382_4, rfl, ul382_3, ge382_3, ul382_4, ge382_4⟩ := k63_openF hMe382
              have hv382_3 := hcc382 3 _ rfl
              rw [add_field _ _ 3 (by omega)] at hv382_3
              replace hv382_3 := Option.some.inj (hv382_3.symm.trans hx382_3)
              injection hv382_3 with hva_ hvn_ hvc_
              rw [hva_] at ge382_3
              rw [hvc_] at ul382_3
              have HL382_3 := Aside0.mk (show Kd.V (Kd.int .i64) 3 _ w.heap.size _ _ ((rd_T63 x4_1 x5_1).f1) from Kd.V_mk ul382_3 ge382_3)
              clear hva_ hvn_ hvc_ ge382_3 ul382_3
              have hv382_4 := hcc382 4 _ rfl
              rw [add_field _ _ 4 (by omega)] at hv382_4
              replace hv382_4 := Option.some.inj (hv382_4.symm.trans hx382_4)
              injection hv382_4 with hva_ hvn_ hvc_
              rw [hva_] at ge382_4
              rw [hvc_] at ul382_4
              have HL382_4 := Aside0.mk (show Kd.V (Kd.int .i64) 3 _ w.heap.size _ _ ((rd_T63 x4_1 x5_1).f2) from Kd.V_mk ul382_4 ge382_4)
              clear hva_ hvn_ hvc_ ge382_4 ul382_4
              clear hcc382 hce382
              have HR382_3 := Aside0.mk hi382_3
              have HC382_3 := Aside0.mk hl382_3
              clear hi382_3 hl382_3
              have HR382_4 := Aside0.mk hi382_4
              have HC382_4 := Aside0.mk hl382_4
              clear hi382_4 hl382_4
              replace p382 := eq_true p382
              replace q382 := eq_true q382
              go_wp2_with (first | ((with_reducible refine gate_callee (f := 40) rfl ?_); refine goesL_ (some 34) rfl rfl Try.func40 (by kernel_rfl) rfl #[.agg #[.int .i64 ((rd_T63 x4_1 x5_1).f0.f0), .int .i64 ((rd_T63 x4_1 x5_1).f0.f1), .int .i64 ((rd_T63 x4_1 x5_1).f0.f2), .slice A382_3 ((rd_T63 x4_1 x5_1).f1).length c382_3, .slice A382_4 ((rd_T63 x4_1 x5_1).f2).length c382_4]] rfl (by (try simp only [List.map_toArray, List.map_cons, List.map_nil]); rfl) ?_; (with_reducible refine (remontoirref18_Deliver.calls ((rd_T63 x4_1 x5_1).f0.f0) ((rd_T63 x4_1 x5_1).f0.f1) ((rd_T63 x4_1 x5_1).f0.f2) _ _ ((rd_T63 x4_1 x5_1).f1) _ _ ((rd_T63 x4_1 x5_1).f2) t383 t384 t385 t386 t389 _ ?side1 ?side2 ?side3 ?side4 A15.out).mono ?_); (case side1 => repeat ((exact (by (exact (Kd.V_reads' HL382_3.out).2.2))))); (case side2 => exact HC382_3.out); (case side3 => repeat ((exact (by (exact (Kd.V_reads' HL382_4.out).2.2))))); (case side4 => exact HC382_4.out); rintro e w18 ⟨v387, v390, rfl, ho0, ho1, hb⟩; obtain ⟨Aov387, cov387, eov387⟩ := Kd.R_slice ho0; subst eov387; obtain ⟨Aov390, cov390, eov390⟩ := Kd.V_slice ho1; subst eov390; refine ⟨_, rfl, ?_⟩; have n0_ := Aside0.mk (Kd.V_elder' HO_3.out (Kd.R_base ho0) hb); have n1_ := Aside0.mk (Kd.N_elder' HO_4.out (Kd.R_base ho0) hb); have n2_ := Aside0.mk (Kd.V_elder' HL382_3.out (Kd.R_base ho0) hb); have n3_ := Aside0.mk (Kd.V_elder' HL382_4.out (Kd.R_base ho0) hb); have n4_ := Aside0.mk (Kd.R_lower (Kd.R_mono (ok' := fun k_ => True) ho0 (fun _ hk_ => trivial)) (below_size HB.out)); have n5_ := Aside0.mk (Kd.V_lower (Kd.V_mono (ok' := fun k_ => some k_ ≠ (.slice Aov387 t386.length cov387 : Value).ownBlock ∧ some k_ ≠ (.slice (some ad382) x4_1.length co17 : Value).ownBlock) ho1 (fun k_ hk_ => ⟨hk_.2, (Kd.fresh' (Kd.N_lt HO_4.out) k_ hk_.1)⟩)) (below_size HB.out)); have n6_ := Aside0.mk (Kd.C_below (by (exact (Kd.V_reads' HL382_3.out).2.2)) hb); have n7_ := Aside0.mk (Kd.C_below (by (exact (Kd.V_reads' HL382_4.out).2.2)) hb); clear HO_3 HO_4 HL382_3 HL382_4 HR382_3 HR382_4; have HO_3 := n0_; have HO_4 := n1_; have HL382_3 := n2_; have HL382_4 := n3_; have HO388 := n4_; have HO391 := n5_; have HR382_3 := n6_; have HR382_4 := n7_; clear n0_ n1_ n2_ n3_ n4_ n5_ n6_ n7_; replace HB := hb_ HB hb; (try clear hb); (try clear hb2); (try clear hk); (try clear hi); (try clear ho0); (try clear ho1); have p16 : 0 ≤ (x5_1 : Int) := of_decide_eq_true (by (with_reducible assumption)); have q16 : (x5_1 : Int) < ((x4_1.length : Int) : Int) := of_decide_eq_true (by (with_reducible assumption)); obtain ⟨go16, co16, eo16, gb16, gl16, cl16, HG16⟩ := Kd.N_form HO_4.out (by omega); ((cases eo16)); have GB16 := Aside0.mk gb16; have GG16 := Aside0.mk HG16; clear gb16 gl16 HG16; ((simp only [add_plain] at hx382_0)); ((simp only [add_plain] at hx382_1)); ((simp only [add_plain] at hx382_2)); ((simp only [add_plain] at hx382_3)); ((simp only [add_plain] at hx382_4)); obtain ⟨ce16, hcl16, hM16, hcc16, hfr16⟩ := Kd.N_elem HO_4.out z63 (x5_1 : Int) p16 q16; obtain ⟨ua16_3, uc16_3, ua16_4, uc16_4, rfl, ul16_3, ge16_3, ul16_4, ge16_4⟩ := k63_openF hM16; have hx16_0 : w18.cell? ⟨go16, (x5_1 : Int).toNat * 5, none⟩ = some (.int .i64 ((rd_T63 x4_1 x5_1).f0.f0)) := hcc16 0 _ rfl; have hx16_1 : w18.cell? ⟨go16, (x5_1 : Int).toNat * 5 + 1, none⟩ = some (.int .i64 ((rd_T63 x4_1 x5_1).f0.f1)) := hcc16 1 _ rfl; have hx16_2 : w18.cell? ⟨go16, (x5_1 : Int).toNat * 5 + 2, none⟩ = some (.int .i64 ((rd_T63 x4_1 x5_1).f0.f2)) := hcc16 2 _ rfl; have hx16_3 : w18.cell? ⟨go16, (x5_1 : Int).toNat * 5 + 3, none⟩ = some (.slice ua16_3 ((rd_T63 x4_1 x5_1).f1).length uc16_3) := hcc16 3 _ rfl; have hx16_4 : w18.cell? ⟨go16, (x5_1 : Int).toNat * 5 + 4, none⟩ = some (.slice ua16_4 ((rd_T63 x4_1 x5_1).f2).length uc16_4) := hcc16 4 _ rfl; have hf16_0 : w18.frozen? ⟨go16, (x5_1 : Int).toNat * 5, none⟩ = false := hfr16 0; have hf16_1 : w18.frozen? ⟨go16, (x5_1 : Int).toNat * 5 + 1, none⟩ = false := hfr16 1; have hf16_2 : w18.frozen? ⟨go16, (x5_1 : Int).toNat * 5 + 2, none⟩ = false := hfr16 2; have hf16_3 : w18.frozen? ⟨go16, (x5_1 : Int).toNat * 5 + 3, none⟩ = false := hfr16 3; have hf16_4 : w18.frozen? ⟨go16, (x5_1 : Int).toNat * 5 + 4, none⟩ = false := hfr16 4; clear hcl16 hcc16 hfr16 hM16; replace p16 := eq_true p16; replace q16 := eq_true q16; have n_ := Aside0.mk (Kd.N_mono (ok' := (fun k_ => some k_ ≠ (.slice Aov387 t386.length cov387 : Value).ownBlock)) HO_4.out (fun k_ hk => hk.2)); clear HO_4; have HO_4 := n_; clear n_; have HX19 := Aside0.mk (show Kd.N k63 63 w18 w.heap.size (fun _ => True) (.slice (some ⟨go16, 0, none⟩) x4_1.length co17) x4_1 from (by exact Kd.N_mono HO_4.out (fun _ hk => trivial))); obtain ⟨ce19, hcl19, hM19, hcc19, hfr19⟩ := Kd.N_elem HX19.out z63 (x5_1 : Int) (of_decide_eq_true (by (with_reducible assumption))) (by have h_ : (x5_1 : Int) < ((x4_1.length : Int) : Int) := of_decide_eq_true (by (with_reducible assumption)); (exact h_)); obtain ⟨ua19_3, uc19_3, ua19_4, uc19_4, rfl, ul19_3, ge19_3, ul19_4, ge19_4⟩ := k63_openF hM19; have HP19 := Kd.N_seg HX19.out (x5_1 : Int) (of_decide_eq_true (by (with_reducible assumption))) (by have h_ : (x5_1 : Int) < ((x4_1.length : Int) : Int) := of_decide_eq_true (by (with_reducible assumption)); (exact h_)) (seg := [.int .i64 t383, .int .i64 t384, .int .i64 t385, (.slice Aov387 t386.length cov387), (.slice Aov390 t389.length cov390)]) (j := 0) hcl19 hcc19 (show 5 ≤ 5 from by decide) (x' := (⟨(⟨t383, t384, t385⟩ : S51), t386, t389⟩ : S63)) (k63_mkF _ _ (⟨(⟨t383, t384, t385⟩ : S51), t386, t389⟩ : S63) (Kd.R_reads' (Kd.R_mono (ok' := (fun k_ => ((fun _ => True)) k_ ∧ k_ ≠ go16)) (Kd.R_apart' (HO388.out) (Kd.N_typed HO_4.out) (by decide)) (fun k_ hk => ⟨trivial, fun e_ => (hk.2) (by rw [e_]; rfl)⟩))).2.1 (Kd.R_F (Kd.R_mono (ok' := (fun k_ => ((fun _ => True)) k_ ∧ k_ ≠ go16)) (Kd.R_apart' (HO388.out) (Kd.N_typed HO_4.out) (by decide)) (fun k_ hk => ⟨trivial, fun e_ => (hk.2) (by rw [e_]; rfl)⟩))) (Kd.V_reads' (Kd.V_mono (ok' := (fun k_ => ((fun _ => True)) k_ ∧ k_ ≠ go16)) (HO391.out) (fun k_ hk => ⟨trivial, fun e_ => (hk.2) (by rw [e_]; rfl)⟩))).2.1 (Kd.V_F (Kd.V_mono (ok' := (fun k_ => ((fun _ => True)) k_ ∧ k_ ≠ go16)) (HO391.out) (fun k_ hk => ⟨trivial, fun e_ => (hk.2) (by rw [e_]; rfl)⟩)))) (fun _ hk => hk); have hx19_0 := hcc19 0 _ rfl; (try simp only [show (k63).sz = 5 from rfl, Nat.mul_one, Nat.add_zero] at hx19_0); have hf19_0 := hfr19 0; (try simp only [show (k63).sz = 5 from rfl, Nat.mul_one, Nat.add_zero] at hf19_0); have hx19_1 := hcc19 1 _ rfl; (try simp only [show (k63).sz = 5 from rfl, Nat.mul_one, Nat.add_zero] at hx19_1); have hf19_1 := hfr19 1; (try simp only [show (k63).sz = 5 from rfl, Nat.mul_one, Nat.add_zero] at hf19_1); have hx19_2 := hcc19 2 _ rfl; (try simp only [show (k63).sz = 5 from rfl, Nat.mul_one, Nat.add_zero] at hx19_2); have hf19_2 := hfr19 2; (try simp only [show (k63).sz = 5 from rfl, Nat.mul_one, Nat.add_zero] at hf19_2); have hx19_3 := hcc19 3 _ rfl; (try simp only [show (k63).sz = 5 from rfl, Nat.mul_one, Nat.add_zero] at hx19_3); have hf19_3 := hfr19 3; (try simp only [show (k63).sz = 5 from rfl, Nat.mul_one, Nat.add_zero] at hf19_3); have hx19_4 := hcc19 4 _ rfl; (try simp only [show (k63).sz = 5 from rfl, Nat.mul_one, Nat.add_zero] at hx19_4); have hf19_4 := hfr19 4; (try simp only [show (k63).sz = 5 from rfl, Nat.mul_one, Nat.add_zero] at hf19_4); clear hcl19 hcc19 hfr19 hM19) | ((with_reducible refine gate_store (t := 63) (p := 35) rfl ?_); refine store_event (t := 63) (p := 35) (v := ?vo_w20) (w1 := (((((w18.setCell ⟨go16, (x5_1 : Int).toNat * 5, none⟩ (.int .i64 t383)).setCell ⟨go16, (x5_1 : Int).toNat * 5 + 1, none⟩ (.int .i64 t384)).setCell ⟨go16, (x5_1 : Int).toNat * 5 + 2, none⟩ (.int .i64 t385)).setCell ⟨go16, (x5_1 : Int).toNat * 5 + 3, none⟩ ((.slice Aov387 t386.length cov387))).setCell ⟨go16, (x5_1 : Int).toNat * 5 + 4, none⟩ ((.slice Aov390 t389.length cov390)))) ?hg ?ho ?hn ?hr ?_; (case ho => rfl); (case hg => rfl); (case hn => rfl); (case hr => (go_simp; done)); intro w20 hw; have hg : w18.grownBy w20 (some go16) := (by rw [hw]; exact HP19.2); have hp_ : Kd.N k63 63 w20 w.heap.size (fun _ => True) (.slice (some ⟨go16, 0, none⟩) x4_1.length co17) y392 := (by rw [hw, Ny392.out]; exact HP19.1); clear HP19; have n0_ := Aside0.mk (Kd.V_afterv (v := (.slice (some ⟨go16, 0, none⟩) x4_1.length co17)) (v1 := (.slice (some ⟨go16, 0, none⟩) x4_1.length co17)) (ok := (fun k_ => some k_ ≠ (.slice Aov387 t386.length cov387 : Value).ownBlock)) (by exact Kd.V_mono HO_3.out (fun _ hk => ⟨hk.2, hk.1⟩)) hg (.inl rfl)); have n1_ := Aside0.mk (hp_); have n2_ := Aside0.mk (Kd.V_afterv (v := (.slice (some ⟨go16, 0, none⟩) x4_1.length co17)) (v1 := (.slice (some ⟨go16, 0, none⟩) x4_1.length co17)) (ok := (fun k_ => some k_ ≠ (.slice Aov387 t386.length cov387 : Value).ownBlock)) (by exact Kd.V_mono HL382_3.out (fun _ hk => ⟨hk.2, hk.1.2⟩)) hg (.inl rfl)); have n3_ := Aside0.mk (Kd.V_afterv (v := (.slice (some ⟨go16, 0, none⟩) x4_1.length co17)) (v1 := (.slice (some ⟨go16, 0, none⟩) x4_1.length co17)) (ok := (fun k_ => some k_ ≠ (.slice Aov387 t386.length cov387 : Value).ownBlock)) (by exact Kd.V_mono HL382_4.out (fun _ hk => ⟨hk.2, hk.1.2⟩)) hg (.inl rfl)); have n4_ := Aside0.mk (Kd.V_afterv (v := (.slice (some ⟨go16, 0, none⟩) x4_1.length co17)) (v1 := (.slice (some ⟨go16, 0, none⟩) x4_1.length co17)) (ok := (fun k_ => some k_ ≠ (.slice Aov387 t386.length cov387 : Value).ownBlock)) HO391.out hg (.inl rfl)); have n5_ := Aside0.mk ((by rw [hw]; exact below_set (below_set (below_set (below_set (below_set (HB.out) GB16.out) GB16.out) GB16.out) GB16.out) GB16.out : Below w.heap.size w w20)); clear HO_3 HO_4 HL382_3 HL382_4 HO391 HB HO388; have HO_3 := n0_; have HO_4 := n1_; have HL382_3 := n2_; have HL382_4 := n3_; have HO391 := n4_; have HB := n5_; clear n0_ n1_ n2_ n3_ n4_ n5_; clear hg hw hp_))
              go_roundg k1
              case measure => have := HK1.out; omega
              case rel => exact ⟨(y392), (wrap64 (x5_1 + 1)), (by rfl), H', ⟨by have := HK1.out; omega⟩, ⟨by exact Kd.V_mono HO_3.out (fun _ hk => hk.2)⟩, ⟨HO_4.out⟩, ⟨HB.out⟩⟩
            · rw [if_neg c14] at H
              exact absurd H (by simp)
          · rw [if_neg c13] at H
            have c13b0 : decide (x5_1 < (x4_1.length : Int)) = false := decide_eq_false c13
            clear c13
            replace H := Option.bind_eq_some_iff.mp H
            obtain ⟨t393, A210, H⟩ := H
            replace H : (if t393 = true then ((remontoirlaw18_As.f k1 t373).bind fun t394 => ((remontoirlaw18_Same.f k1 t394 x4_1).bind fun t397 => (if t397 = true then ((remontoirlaw18_knows.f k1).bind fun t398 => (some t398)) else (some false)))) else (some false)) = some true := H
            have A21 := Aside0.mk A210
            clear A210
            by_cases c22 : t393 = true
            · subst c22
              have H1 : ((remontoirlaw18_As.f k1 t373).bind fun t394 => ((remontoirlaw18_Same.f k1 t394 x4_1).bind fun t397 => (if t397 = true then ((remontoirlaw18_knows.f k1).bind fun t398 => (some t398)) else (some false)))) = some true := by rw [if_pos rfl] at H; exact H
              clear H
              have H := H1
              clear H1
              replace H := Option.bind_eq_some_iff.mp H
              obtain ⟨t394, A230, H⟩ := H
              replace H : ((remontoirlaw18_Same.f k1 t394 x4_1).bind fun t397 => (if t397 = true then ((remontoirlaw18_knows.f k1).bind fun t398 => (some t398)) else (some false))) = some true := H
              have A23 := Aside0.mk A230
              clear A230
              replace H := Option.bind_eq_some_iff.mp H
              obtain ⟨t397, A240, H⟩ := H
              replace H : (if t397 = true then ((remontoirlaw18_knows.f k1).bind fun t398 => (some t398)) else (some false)) = some true := H
              have A24 := Aside0.mk A240
              clear A240
              by_cases c25 : t397 = true
              · subst c25
                have H1 : ((remontoirlaw18_knows.f k1).bind fun t398 => (some t398)) = some true := by rw [if_pos rfl] at H; exact H
                clear H
                have H := H1
                clear H1
                replace H := Option.bind_eq_some_iff.mp H
                obtain ⟨t398, A260, H⟩ := H
                replace H : (some t398) = some true := H
                have A26 := Aside0.mk A260
                clear A260
                have HR_ := Aside0.mk (Option.some.inj H)
                clear H
                obtain ⟨Ao27, co27, eo27⟩ := Kd.N_slice HO_4.out
                subst eo27
                obtain ⟨Ao28, co28, eo28⟩ := Kd.V_slice HO_3.out
                subst eo28
                go_wp2_with (first | ((with_reducible refine gate_callee (f := 33) rfl ?_); refine goesL_ (some 37) rfl rfl Try.func33 (by kernel_rfl) rfl #[.slice Ao28 t373.length co28] rfl (by (try simp only [List.map_toArray, List.map_cons, List.map_nil]); rfl) ?_; (with_reducible refine (remontoirlaw18_right.calls k1 _ _ t373 true _ ?side1 ?side2 A21.out).mono ?_); (case side1 => repeat ((exact (Kd.V_reads' HO_3.out).2.2))); (case side2 => exact (Kd.V_reads' HO_3.out).2.1); rintro e w29 ⟨rfl, hb⟩; refine ⟨_, rfl, ?_⟩; replace HO_3 := vb_ HO_3 hb; replace HO_4 := nb_ HO_4 hb; replace HB := hb_ HB hb; (try clear hb); (try clear hb2); (try clear hk); (try clear hi)) | (go_at_call 35; (with_reducible refine (remontoirlaw18_As.calls k1 _ _ t373 t394 _ ?side1 ?side2 A23.out).mono ?_); (case side1 => repeat ((exact (Kd.V_reads' HO_3.out).2.2))); (case side2 => exact (Kd.V_reads' HO_3.out).2.1); rintro e w30 ⟨v395, rfl, ho0, hb⟩; have n0_ := Aside0.mk (Kd.V_elder' HO_3.out (by (exact Kd.N_base (Kd.S_N ho0))) hb); have n1_ := Aside0.mk (Kd.N_elder' HO_4.out (by (exact Kd.N_base (Kd.S_N ho0))) hb); have n2_ := Aside0.mk (Kd.N_lower (Kd.N_mono (ok' := fun k_ => some k_ ≠ (.slice Ao27 x4_1.length co27 : Value).ownBlock) (Kd.S_N (Kd.S_bound ho0)) (fun k_ hk_ => (Kd.fresh' (Kd.N_lt HO_4.out) k_ hk_.2.1))) (below_size HB.out)); clear HO_3 HO_4; have HO_3 := n0_; have HO_4 := n1_; have HO396 := n2_; clear n0_ n1_ n2_; replace HB := hb_ HB hb; (try clear hb); (try clear hb2); (try clear hk); (try clear hi); (try clear ho0); obtain ⟨Ao31, co31, eo31⟩ := Kd.N_slice HO396.out; subst eo31) | (go_at_call 38; (with_reducible refine (remontoirlaw18_Same.calls k1 _ _ t394 _ _ x4_1 true _ ?side1 ?side2 ?side3 ?side4 A24.out).mono ?_); (case side1 => repeat ((exact (Kd.N_reads' HO396.out).2.2))); (case side2 => exact (Kd.N_reads' HO396.out).2.1); (case side3 => repeat ((exact (Kd.N_reads' HO_4.out).2.2))); (case side4 => exact (Kd.N_reads' HO_4.out).2.1); rintro e w32 ⟨rfl, hb⟩; replace HO_3 := vb_ HO_3 hb; replace HO_4 := nb_ HO_4 hb; replace HO396 := nb_ HO396 hb; replace HB := hb_ HB hb; (try clear hb); (try clear hb2); (try clear hk); (try clear hi)) | (go_at_call 27; (with_reducible refine (remontoirlaw18_knows.calls k1  t398 _ A26.out).mono ?_); rintro e w33 ⟨rfl, hb⟩; replace HO_3 := vb_ HO_3 hb; replace HO_4 := nb_ HO_4 hb; replace HO396 := nb_ HO396 hb; replace HB := hb_ HB hb; (try clear hb); (try clear hb2); (try clear hk); (try clear hi)))
                go_ret
                exact ⟨by (rw [HR_.out] <;> rfl), by repeat ((with_reducible (exact HB.out)))⟩
              · replace c25 := Bool.eq_false_iff.mpr c25
                subst c25
                have H1 : (some false) = some true := by rw [if_neg (show ¬ (false = true) by decide)] at H; exact H
                clear H
                have H := H1
                clear H1
                exact absurd H (by simp)
            · replace c22 := Bool.eq_false_iff.mpr c22
              subst c22
              have H1 : (some false) = some true := by rw [if_neg (show ¬ (false = true) by decide)] at H; exact H
              clear H
              have H := H1
              clear H1
              exact absurd H (by simp)
    · replace c8 := Bool.eq_false_iff.mpr c8
      subst c8
      have H1 : ((remontoirlaw18_stays.f k t373 l0).bind fun t377 => (if t377 = true then ((remontoirlaw18_knows.f k).bind fun t378 => (some t378)) else (some false))) = some true := by rw [if_neg (show ¬ (false = true) by decide)] at H; exact H
      clear H
      have H := H1
      clear H1
      replace H := Option.bind_eq_some_iff.mp H
      obtain ⟨t377, A340, H⟩ := H
      replace H : (if t377 = true then ((remontoirlaw18_knows.f k).bind fun t378 => (some t378)) else (some false)) = some true := H
      have A34 := Aside0.mk A340
      clear A340
      by_cases c35 : t377 = true
      · subst c35
        have H1 : ((remontoirlaw18_knows.f k).bind fun t378 => (some t378)) = some true := by rw [if_pos rfl] at H; exact H
        clear H
        have H := H1
        clear H1
        replace H := Option.bind_eq_some_iff.mp H
        obtain ⟨t378, A360, H⟩ := H
        replace H : (some t378) = some true := H
        have A36 := Aside0.mk A360
        clear A360
        have HR_ := Aside0.mk (Option.some.inj H)
        clear H
        go_enter Try.func10, Try.ntmps10
        go_wp2_with (first | ((with_reducible refine gate_callee (f := 32) rfl ?_); refine goesL_ (some 7) rfl rfl Try.func32 (by kernel_rfl) rfl #[.slice A0 l0.length c0] rfl (by (try simp only [List.map_toArray, List.map_cons, List.map_nil]); rfl) ?_; (with_reducible refine (remontoirlaw18_great.calls k _ _ l0 false _ ?side1 ?side2 A2.out).mono ?_); (case side1 => repeat ((exact HR0.out))); (case side2 => exact HC0.out); rintro e w' ⟨rfl, ⟨nd, rfl⟩⟩; refine ⟨_, rfl, ?_⟩) | ((with_reducible refine gate_callee (f := 30) rfl ?_); refine goesL_ (some 10) rfl rfl Try.func30 (by kernel_rfl) rfl #[.slice A0 l0.length c0] rfl (by (try simp only [List.map_toArray, List.map_cons, List.map_nil]); rfl) ?_; (with_reducible refine (port_Deliver.calls k (fun k_ => k_ < w.heap.size) _ _ l0 t373 _ ?side1 A6.out).mono ?_); (case side1 => exact Kd.V_mk HC0.out (Kd.F_below (Kd.C_F k76_heap HR0.out) (by repeat ((with_reducible first | exact HB.out | apply pw_below_drewN))))); rintro e w37 ⟨v374, rfl, ho0, hb⟩; refine ⟨_, rfl, ?_⟩; have n0_ := Aside0.mk (Kd.V_lower (Kd.V_mono (ok' := fun k_ => True) ho0 (fun k_ hk_ => trivial)) (below_size (by repeat ((with_reducible first | exact HB.out | apply pw_below_drewN))))); have n1_ := Aside0.mk (below_step (by repeat ((with_reducible first | exact HB.out | apply pw_below_drewN))) hb); clear HB; have HO375 := n0_; have HB := n1_; clear n0_ n1_; (try clear hb); (try clear hb2); (try clear hk); (try clear hi); (try clear ho0)) | ((with_reducible refine gate_callee (f := 33) rfl ?_); refine goesL_ (some 12) rfl rfl Try.func33 (by kernel_rfl) rfl #[.slice A0 l0.length c0] rfl (by (try simp only [List.map_toArray, List.map_cons, List.map_nil]); rfl) ?_; (with_reducible refine (remontoirlaw18_right.calls k _ _ l0 false _ ?side1 ?side2 A7.out).mono ?_); (case side1 => repeat ((exact (Kd.C_below HR0.out HB.out)))); (case side2 => exact HC0.out); rintro e w38 ⟨rfl, hb⟩; refine ⟨_, rfl, ?_⟩; replace HO375 := vb_ HO375 hb; replace HB := hb_ HB hb; (try clear hb); (try clear hb2); (try clear hk); (try clear hi); obtain ⟨Ao39, co39, eo39⟩ := Kd.V_slice HO375.out; subst eo39) | ((with_reducible refine gate_callee (f := 34) rfl ?_); refine goesL_ (some 16) rfl rfl Try.func34 (by kernel_rfl) rfl #[.slice Ao39 t373.length co39, .slice A0 l0.length c0] rfl (by (try simp only [List.map_toArray, List.map_cons, List.map_nil]); rfl) ?_; (with_reducible refine (remontoirlaw18_stays.calls k _ _ t373 _ _ l0 true _ ?side1 ?side2 ?side3 ?side4 A34.out).mono ?_); (case side1 => repeat ((exact (Kd.V_reads' HO375.out).2.2))); (case side2 => exact (Kd.V_reads' HO375.out).2.1); (case side3 => repeat ((exact (Kd.C_below HR0.out HB.out)))); (case side4 => exact HC0.out); rintro e w40 ⟨rfl, hb⟩; refine ⟨_, rfl, ?_⟩; replace HO375 := vb_ HO375 hb; replace HB := hb_ HB hb; (try clear hb); (try clear hb2); (try clear hk); (try clear hi)) | (go_at_call 27; (with_reducible refine (remontoirlaw18_knows.calls k  t378 _ A36.out).mono ?_); rintro e w41 ⟨rfl, hb⟩; replace HO375 := vb_ HO375 hb; replace HB := hb_ HB hb; (try clear hb); (try clear hb2); (try clear hk); (try clear hi)))
        go_ret
        exact ⟨by (rw [HR_.out] <;> rfl), by repeat ((with_reducible (exact HB.out)))⟩
      · replace c35 := Bool.eq_false_iff.mpr c35
        subst c35
        have H1 : (some false) = some true := by rw [if_neg (show ¬ (false = true) by decide)] at H; exact H
        clear H
        have H := H1
        clear H1
        exact absurd H (by simp)

/-- The statement of remontoirlaw18_PortDelivers over plain data. -/
def remontoirlaw18_PortDelivers.Pure : Prop := ∀ (l0 : List (S76)), (l0.length ≤ 9223372036854775807 ∧ ∀ x ∈ l0, (((Lit.int .i64 x.f0.f0).wf = true ∧ ((Lit.int .i64 x.f0.f1).wf = true ∧ (Lit.int .i64 x.f0.f2).wf = true)) ∧ (((x.f1.f0.length ≤ 9223372036854775807 ∧ ∀ y ∈ x.f1.f0, (Lit.int .i64 y).wf = true) ∧ ((Lit.int .i64 x.f1.f1).wf = true ∧ (Lit.int .i64 x.f1.f2).wf = true)) ∧ ((x.f2.f0.length ≤ 9223372036854775807 ∧ ∀ y ∈ x.f2.f0, (Lit.int .i64 y).wf = true) ∧ ((Lit.int .i64 x.f2.f1).wf = true ∧ (Lit.int .i64 x.f2.f2).wf = true))))) → ∃ k, remontoirlaw18_PortDelivers.f k l0 = some true

end Go.Proofs.Yteddflcloeelhaa.FDeliv
