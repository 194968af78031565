-- Written by the session (wip/tools) for this claim: functions of the program as Lean functions, and their contracts.
import Derived.Test.YtkfkghnmbemdiaaZFSynthx0
import Derived.Test.YtkfkghnmbemdiaaZFSynthx2
import Derived.Test.YtkfkghnmbemdiaaZFSynthx3
import Derived.Test.YtkfkghnmbemdiaaZFSynthx4
import Derived.Test.YtkfkghnmbemdiaaZFSynthx5
import Derived.Test.YtkfkghnmbemdiaaZFSynthx6
namespace Go.Proofs.Ytkfkghnmbemdiaa.FSynth
open Go.RowKit Go.Proofs.YtkfkghnmbemdiaaW.PrintWords Go.Proofs.YtkfkghnmbemdiaaW.PrintLast Go.Proofs.YtkfkghnmbemdiaaW.PrintMore
attribute [local go_sem] max2_int min2_int max_two min_two max_three min_three max_four min_four   -- for this text's walks alone
set_option linter.unusedVariables false
set_option linter.unusedSimpArgs false

/-! ### remontoirlaw12_SynthLays: function 7 -/
def remontoirlaw12_SynthLays.f (k : Nat) (l0 : List (S54)) : Option (Bool) := if (l0.length : Int) > 20 then ((remontoirlaw12_knows.f k).bind fun t170 => (some t170)) else ((synth_Lay.f k l0).bind fun bt171 => ((remontoirref12_Lay.f k l0).bind fun bt175 => ((remontoirref05_SameInts.f k bt171.1 bt175.1).bind fun t179 => (if t179 = true then (if bt171.2 = bt175.2 then ((remontoirlaw12_knows.f k).bind fun t180 => (some t180)) else (some false)) else (some false)))))
theorem remontoirlaw12_SynthLays.mono : ∀ a0 k, LeO (remontoirlaw12_SynthLays.f k a0) (remontoirlaw12_SynthLays.f (k + 1) a0) := by
  intro a0 k
  unfold remontoirlaw12_SynthLays.f
  repeat' first
      | (with_reducible exact remontoirlaw12_knows.mono _)
      | (with_reducible exact remontoirref05_SameInts.mono _ _ _)
      | (with_reducible exact remontoirref12_Lay.mono _ _)
      | (with_reducible exact synth_Lay.mono _ _)
      | (with_reducible exact LeO.refl _)
      | (with_reducible exact LeO.none _)
      | (with_reducible refine LeO.ite ?_ ?_)
      | (with_reducible refine LeO.bind ?_ (fun _ => ?_))
      | exact remontoirlaw12_knows.mono _
      | exact remontoirref05_SameInts.mono _ _ _
      | exact remontoirref12_Lay.mono _ _
      | exact synth_Lay.mono _ _
      | exact LeO.none _
      | refine LeO.ite ?_ ?_
      | refine LeO.bind ?_ (fun _ => ?_)
set_option maxHeartbeats 8000000 in
set_option maxRecDepth 100000 in
theorem remontoirlaw12_SynthLays.calls (k : Nat) (A0 : Option Addr) (c0 : Nat) (l0 : List (S54)) (w : World) (hr0 : Kd.C k54 w A0 l0.length l0) (hc0 : l0.length ≤ c0) (h : remontoirlaw12_SynthLays.f k l0 = some true) :
    Calls Try.prog 7 #[.slice A0 l0.length c0] w fun e w' => e = .returned (.bool true) ∧ Below w.heap.size w w' := by
  have HR0 := Aside0.mk hr0
  have HC0 := Aside0.mk hc0
  clear hr0 hc0
  have HB := Aside0.mk (Below.refl w.heap.size w)
  have H : (if (l0.length : Int) > 20 then ((remontoirlaw12_knows.f k).bind fun t170 => (some t170)) else ((synth_Lay.f k l0).bind fun bt171 => ((remontoirref12_Lay.f k l0).bind fun bt175 => ((remontoirref05_SameInts.f k bt171.1 bt175.1).bind fun t179 => (if t179 = true then (if bt171.2 = bt175.2 then ((remontoirlaw12_knows.f k).bind fun t180 => (some t180)) else (some false)) else (some false)))))) = some true := h
  clear h
  by_cases c2 : (l0.length : Int) > 20
  · rw [if_pos c2] at H
    have c2b0 : decide (20 < (l0.length : Int)) = true := decide_eq_true c2
    have c2b1 : decide (20 < l0.length) = true := decide_eq_true (by omega)
    clear c2
    replace H := Option.bind_eq_some_iff.mp H
    obtain ⟨t170, A30, H⟩ := H
    replace H : (some t170) = some true := H
    have A3 := Aside0.mk A30
    clear A30
    have HR_ := Aside0.mk (Option.some.inj H)
    clear H
    go_enter Try.func7, Try.ntmps7
    go_wp2_with (first | ((with_reducible refine gate_callee (f := 25) rfl ?_); refine goesL_ (some 10) rfl rfl Try.func25 (by kernel_rfl) rfl #[] rfl (by (try simp only [List.map_toArray, List.map_cons, List.map_nil]); first | done | rfl | (simp only [List.length_drop, List.length_take]; rfl)) ?_; (with_reducible refine (remontoirlaw12_knows.calls k  t170 _ A3.out).mono ?_); rintro e w4 ⟨rfl, hb⟩; refine ⟨_, rfl, ?_⟩; have n0_ := Aside0.mk (below_step (by repeat (first | (with_reducible first | exact HB.out | apply below_alloc | apply pw_below_drewN | apply below_drew1) | exact HB.out)) hb); clear HB; have HB := n0_; clear n0_; (try clear hb); (try clear hb2); (try clear hk); (try clear hi)))
    go_ret
    exact ⟨by first | rfl | (rw [HR_.out] <;> rfl) | (simp [errW_none, errW_some] <;> rfl) | (simp [*, errW_none, errW_some] <;> rfl), by repeat (first | (with_reducible first | exact HB.out | apply below_alloc | apply pw_below_drewN | apply below_drew1) | exact HB.out)⟩
  · rw [if_neg c2] at H
    have c2b0 : decide (20 < (l0.length : Int)) = false := decide_eq_false c2
    have c2b1 : decide (20 < l0.length) = false := decide_eq_false (by omega)
    clear c2
    replace H := Option.bind_eq_some_iff.mp H
    obtain ⟨⟨t171, t172⟩, A50, H⟩ := H
    replace H : ((remontoirref12_Lay.f k l0).bind fun bt175 => ((remontoirref05_SameInts.f k t171 bt175.1).bind fun t179 => (if t179 = true then (if t172 = bt175.2 then ((remontoirlaw12_knows.f k).bind fun t180 => (some t180)) else (some false)) else (some false)))) = some true := H
    have A5 := Aside0.mk A50
    clear A50
    replace H := Option.bind_eq_some_iff.mp H
    obtain ⟨⟨t175, t176⟩, A60, H⟩ := H
    replace H : ((remontoirref05_SameInts.f k t171 t175).bind fun t179 => (if t179 = true then (if t172 = t176 then ((remontoirlaw12_knows.f k).bind fun t180 => (some t180)) else (some false)) else (some false))) = some true := H
    have A6 := Aside0.mk A60
    clear A60
    replace H := Option.bind_eq_some_iff.mp H
    obtain ⟨t179, A70, H⟩ := H
    replace H : (if t179 = true then (if t172 = t176 then ((remontoirlaw12_knows.f k).bind fun t180 => (some t180)) else (some false)) else (some false)) = some true := H
    have A7 := Aside0.mk A70
    clear A70
    by_cases c8 : t179 = true
    · subst c8
      have H1 : (if t172 = t176 then ((remontoirlaw12_knows.f k).bind fun t180 => (some t180)) else (some false)) = some true := by rw [if_pos rfl] at H; exact H
      clear H
      have H := H1
      clear H1
      by_cases c9 : t172 = t176
      · rw [if_pos c9] at H
        have c9b0 : (t172 == t176) = true := beq_iff_eq.mpr c9
        have c9b1 : (t172 != t176) = false := bne_eq_false_iff_eq.mpr c9
        clear c9
        replace H := Option.bind_eq_some_iff.mp H
        obtain ⟨t180, A100, H⟩ := H
        replace H : (some t180) = some true := H
        have A10 := Aside0.mk A100
        clear A100
        have HR_ := Aside0.mk (Option.some.inj H)
        clear H
        go_enter Try.func7, Try.ntmps7
        go_wp2_with (first | ((with_reducible refine gate_callee (f := 26) rfl ?_); refine goesL_ (some 13) rfl rfl Try.func26 (by kernel_rfl) rfl #[.slice A0 l0.length c0] rfl (by (try simp only [List.map_toArray, List.map_cons, List.map_nil]); first | done | rfl | (simp only [List.length_drop, List.length_take]; rfl)) ?_; (with_reducible refine (synth_Lay.calls k _ _ l0 t171 t172 _ ?side1 ?side2 A5.out).mono ?_); (case side1 => repeat (first | exact HR0.out | (with_reducible refine Kd.C_alloc ?_ _) | (with_reducible refine Kd.C_drewN ?_ _) | (with_reducible refine Kd.C_drew ?_))); (case side2 => exact HC0.out); rintro e w11 ⟨v173, rfl, ho0, hb⟩; refine ⟨_, rfl, ?_⟩; have n0_ := Aside0.mk (Kd.R_lower ho0 (below_size (by repeat (first | (with_reducible first | exact HB.out | apply below_alloc | apply pw_below_drewN | apply below_drew1) | exact HB.out)))); have n1_ := Aside0.mk (below_step (by repeat (first | (with_reducible first | exact HB.out | apply below_alloc | apply pw_below_drewN | apply below_drew1) | exact HB.out)) hb); clear HB; have HO174 := n0_; have HB := n1_; clear n0_ n1_; (try clear hb); (try clear hb2); (try clear hk); (try clear hi); (try clear ho0)) | ((with_reducible refine gate_callee (f := 27) rfl ?_); refine goesL_ (some 18) rfl rfl Try.func27 (by kernel_rfl) rfl #[.slice A0 l0.length c0] rfl (by (try simp only [List.map_toArray, List.map_cons, List.map_nil]); first | done | rfl | (simp only [List.length_drop, List.length_take]; rfl)) ?_; (with_reducible refine (remontoirref12_Lay.calls k _ _ l0 t175 t176 _ ?side1 ?side2 A6.out).mono ?_); (case side1 => repeat (first | exact (Kd.C_below HR0.out HB.out) | (with_reducible refine Kd.C_alloc ?_ _) | (with_reducible refine Kd.C_drewN ?_ _) | (with_reducible refine Kd.C_drew ?_))); (case side2 => exact HC0.out); rintro e w12 ⟨v177, rfl, ho0, hb⟩; refine ⟨_, rfl, ?_⟩; have n0_ := Aside0.mk (Kd.R_elder' (by (with_reducible repeat (first | apply Kd.R_alloc | apply Kd.R_drewN | apply Kd.R_drew)); exact HO174.out) (Kd.R_base ho0) hb); have n1_ := Aside0.mk (Kd.R_lower (Kd.R_new' ho0 (Kd.R_lt (by (with_reducible repeat (first | apply Kd.R_alloc | apply Kd.R_drewN | apply Kd.R_drew)); exact HO174.out))) (below_size (by repeat (first | (with_reducible first | exact HB.out | apply below_alloc | apply pw_below_drewN | apply below_drew1) | exact HB.out)))); have n2_ := Aside0.mk (below_step (by repeat (first | (with_reducible first | exact HB.out | apply below_alloc | apply pw_below_drewN | apply below_drew1) | exact HB.out)) hb); clear HO174; clear HB; have HO174 := n0_; have HO178 := n1_; have HB := n2_; clear n0_ n1_ n2_; (try clear hb); (try clear hb2); (try clear hk); (try clear hi); (try clear ho0); obtain ⟨Ao13, co13, eo13⟩ := Kd.R_slice HO174.out; subst eo13; obtain ⟨Ao14, co14, eo14⟩ := Kd.R_slice HO178.out; subst eo14) | ((with_reducible refine gate_callee (f := 19) rfl ?_); refine goesL_ (some 23) rfl rfl Try.func19 (by kernel_rfl) rfl #[.slice Ao13 t171.length co13, .slice Ao14 t175.length co14] rfl (by (try simp only [List.map_toArray, List.map_cons, List.map_nil]); first | done | rfl | (simp only [List.length_drop, List.length_take]; rfl)) ?_; (with_reducible refine (remontoirref05_SameInts.calls k _ _ t171 _ _ t175 true _ ?side1 ?side2 ?side3 ?side4 A7.out).mono ?_); (case side1 => repeat (first | exact (Kd.R_reads' HO174.out).2.2 | (with_reducible refine Kd.C_alloc ?_ _) | (with_reducible refine Kd.C_drewN ?_ _) | (with_reducible refine Kd.C_drew ?_))); (case side2 => exact (Kd.R_reads' HO174.out).2.1); (case side3 => repeat (first | exact (Kd.R_reads' HO178.out).2.2 | (with_reducible refine Kd.C_alloc ?_ _) | (with_reducible refine Kd.C_drewN ?_ _) | (with_reducible refine Kd.C_drew ?_))); (case side4 => exact (Kd.R_reads' HO178.out).2.1); rintro e w' ⟨rfl, ⟨nd, rfl⟩⟩; refine ⟨_, rfl, ?_⟩) | (go_at_call 25; (with_reducible refine (remontoirlaw12_knows.calls k  t180 _ A10.out).mono ?_); rintro e w15 ⟨rfl, hb⟩; have n0_ := Aside0.mk (Kd.R_below (by (with_reducible repeat (first | apply Kd.R_alloc | apply Kd.R_drewN | apply Kd.R_drew)); exact HO174.out) hb); have n1_ := Aside0.mk (Kd.R_below (by (with_reducible repeat (first | apply Kd.R_alloc | apply Kd.R_drewN | apply Kd.R_drew)); exact HO178.out) hb); have n2_ := Aside0.mk (below_step (by repeat (first | (with_reducible first | exact HB.out | apply below_alloc | apply pw_below_drewN | apply below_drew1) | exact HB.out)) hb); clear HO174; clear HO178; clear HB; have HO174 := n0_; have HO178 := n1_; have HB := n2_; clear n0_ n1_ n2_; (try clear hb); (try clear hb2); (try clear hk); (try clear hi)))
        go_ret
        exact ⟨by first | rfl | (rw [HR_.out] <;> rfl) | (simp [errW_none, errW_some] <;> rfl) | (simp [*, errW_none, errW_some] <;> rfl), by repeat (first | (with_reducible first | exact HB.out | apply below_alloc | apply pw_below_drewN | apply below_drew1) | exact HB.out)⟩
      · rw [if_neg c9] at H
        have c9b0 : (t172 == t176) = false := beq_eq_false_iff_ne.mpr c9
        have c9b1 : (t172 != t176) = true := bne_iff_ne.mpr c9
        exact absurd H (by simp)
    · replace c8 := Bool.eq_false_iff.mpr c8
      subst c8
      have H1 : (some false) = some true := by rw [if_neg (show ¬ (false = true) by decide)] at H; exact H
      clear H
      have H := H1
      clear H1
      exact absurd H (by simp)

/-- The statement of remontoirlaw12_SynthLays over plain data. -/
def remontoirlaw12_SynthLays.Pure : Prop := ∀ (l0 : List (S54)), (l0.length ≤ 9223372036854775807 ∧ ∀ x ∈ l0, ((Lit.int .i64 x.f0).wf = true ∧ (Lit.int .i64 x.f1).wf = true)) → ∃ k, remontoirlaw12_SynthLays.f k l0 = some true

/-! ### remontoirlaw12_SynthPeriods: function 8 -/
mutual
def remontoirlaw12_SynthPeriods.j0 : Nat → List (S54) → Int → Int → Bool → Option (Bool)
  | 0, _, _, _, _ => none
  | k + 1, x0, x1, x2, x20 => if x20 = true then ((remontoirlaw12_knows.f k).bind fun t181 => (some t181)) else ((synth_Lay.f k x0).bind fun bt182 => (if bt182.2 = 0 then (if (x0.length : Int) = 0 then (none) else (if (bt182.1.length : Int) = 0 then (some false) else (if 0 ≤ (Int.tmod (wrap64 (x1)) (x0.length : Int)) then (if (Int.tmod (wrap64 (x1)) (x0.length : Int)) < (x0.length : Int) then (remontoirlaw12_SynthPeriods.l0 k x0 bt182.1 (Int.tmod (wrap64 (x1)) (x0.length : Int)) (Int.tmod (wrap64 ((wrap64 (x2)) * ((rd_T54 x0 (Int.tmod (wrap64 (x1)) (x0.length : Int))).f0))) (bt182.1.length : Int)) 0 (Int.tmod (wrap64 ((wrap64 (x2)) * ((rd_T54 x0 (Int.tmod (wrap64 (x1)) (x0.length : Int))).f0))) (bt182.1.length : Int))) else (none)) else (none)))) else (if (bt182.1.length : Int) = 0 then ((remontoirlaw12_knows.f k).bind fun t186 => (some t186)) else (some false))))
def remontoirlaw12_SynthPeriods.l0 : Nat → List (S54) → List Int → Int → Int → Int → Int → Option (Bool)
  | 0, _, _, _, _, _, _ => none
  | k + 1, x0, x7, x9, x10, x11, x12 => if 0 ≤ x9 then (if x9 < (x0.length : Int) then (if x12 < (wrap64 (x10 + ((rd_T54 x0 x9).f0))) then (if 0 ≤ x12 then (if x12 < (x7.length : Int) then (if (rd x7 x12) = x9 then (remontoirlaw12_SynthPeriods.l0 k x0 x7 x9 x10 (wrap64 (x11 + 1)) (wrap64 (x12 + 1))) else (remontoirlaw12_SynthPeriods.l0 k x0 x7 x9 x10 x11 (wrap64 (x12 + 1)))) else (none)) else (none)) else (if x11 = ((rd_T54 x0 x9).f1) then ((remontoirlaw12_knows.f k).bind fun t191 => (some t191)) else (some false))) else (none)) else (none)
end
def remontoirlaw12_SynthPeriods.f (k : Nat) (l0 : List (S54)) (a1 : Int) (a2 : Int) : Option (Bool) := if (l0.length : Int) > 20 then (remontoirlaw12_SynthPeriods.j0 k l0 a1 a2 true) else (remontoirlaw12_SynthPeriods.j0 k l0 a1 a2 ((l0.length : Int) == 0))
theorem remontoirlaw12_SynthPeriods.mono_l : ∀ k, (∀ y0 y1 y2 y3, LeO (remontoirlaw12_SynthPeriods.j0 k y0 y1 y2 y3) (remontoirlaw12_SynthPeriods.j0 (k + 1) y0 y1 y2 y3)) ∧ (∀ y0 y1 y2 y3 y4 y5, LeO (remontoirlaw12_SynthPeriods.l0 k y0 y1 y2 y3 y4 y5) (remontoirlaw12_SynthPeriods.l0 (k + 1) y0 y1 y2 y3 y4 y5))
  | 0 => ⟨fun _ _ _ _ r h => by simp [remontoirlaw12_SynthPeriods.j0] at h, fun _ _ _ _ _ _ r h => by simp [remontoirlaw12_SynthPeriods.l0] at h⟩
  | k + 1 => by
    obtain ⟨ih0, ih1⟩ := remontoirlaw12_SynthPeriods.mono_l k
    refine ⟨?_, ?_⟩
    · intro y0 y1 y2 y3
      unfold remontoirlaw12_SynthPeriods.j0
      repeat' first
      | (with_reducible exact ih0 _ _ _ _)
      | (with_reducible exact ih1 _ _ _ _ _ _)
      | (with_reducible exact remontoirlaw12_knows.mono _)
      | (with_reducible exact synth_Lay.mono _ _)
      | (with_reducible exact LeO.refl _)
      | (with_reducible exact LeO.none _)
      | (with_reducible refine LeO.ite ?_ ?_)
      | (with_reducible refine LeO.bind ?_ (fun _ => ?_))
      | exact ih0 _ _ _ _
      | exact ih1 _ _ _ _ _ _
      | exact remontoirlaw12_knows.mono _
      | exact synth_Lay.mono _ _
      | exact LeO.none _
      | refine LeO.ite ?_ ?_
      | refine LeO.bind ?_ (fun _ => ?_)
    · intro y0 y1 y2 y3 y4 y5
      unfold remontoirlaw12_SynthPeriods.l0
      repeat' first
      | (with_reducible exact ih0 _ _ _ _)
      | (with_reducible exact ih1 _ _ _ _ _ _)
      | (with_reducible exact remontoirlaw12_knows.mono _)
      | (with_reducible exact synth_Lay.mono _ _)
      | (with_reducible exact LeO.refl _)
      | (with_reducible exact LeO.none _)
      | (with_reducible refine LeO.ite ?_ ?_)
      | (with_reducible refine LeO.bind ?_ (fun _ => ?_))
      | exact ih0 _ _ _ _
      | exact ih1 _ _ _ _ _ _
      | exact remontoirlaw12_knows.mono _
      | exact synth_Lay.mono _ _
      | exact LeO.none _
      | refine LeO.ite ?_ ?_
      | refine LeO.bind ?_ (fun _ => ?_)
theorem remontoirlaw12_SynthPeriods.mono : ∀ a0 a1 a2 k, LeO (remontoirlaw12_SynthPeriods.f k a0 a1 a2) (remontoirlaw12_SynthPeriods.f (k + 1) a0 a1 a2) := by
  intro a0 a1 a2 k
  obtain ⟨ih0, ih1⟩ := remontoirlaw12_SynthPeriods.mono_l k
  unfold remontoirlaw12_SynthPeriods.f
  repeat' first
      | (with_reducible exact ih0 _ _ _ _)
      | (with_reducible exact ih1 _ _ _ _ _ _)
      | (with_reducible exact remontoirlaw12_knows.mono _)
      | (with_reducible exact synth_Lay.mono _ _)
      | (with_reducible exact LeO.refl _)
      | (with_reducible exact LeO.none _)
      | (with_reducible refine LeO.ite ?_ ?_)
      | (with_reducible refine LeO.bind ?_ (fun _ => ?_))
      | exact ih0 _ _ _ _
      | exact ih1 _ _ _ _ _ _
      | exact remontoirlaw12_knows.mono _
      | exact synth_Lay.mono _ _
      | exact LeO.none _
      | refine LeO.ite ?_ ?_
      | refine LeO.bind ?_ (fun _ => ?_)
set_option maxHeartbeats 8000000 in
set_option maxRecDepth 100000 in
theorem remontoirlaw12_SynthPeriods.calls (k : Nat) (A0 : Option Addr) (c0 : Nat) (l0 : List (S54)) (a1 : Int) (a2 : Int) (w : World) (hr0 : Kd.C k54 w A0 l0.length l0) (hc0 : l0.length ≤ c0) (h : remontoirlaw12_SynthPeriods.f k l0 a1 a2 = some true) :
    Calls Try.prog 8 #[.slice A0 l0.length c0, .int .u8 a1, .int .u8 a2] w fun e w' => e = .returned (.bool true) ∧ Below w.heap.size w w' := by
  have HR0 := Aside0.mk hr0
  have HC0 := Aside0.mk hc0
  clear hr0 hc0
  have HB := Aside0.mk (Below.refl w.heap.size w)
  have H : (if (l0.length : Int) > 20 then (remontoirlaw12_SynthPeriods.j0 k l0 a1 a2 true) else (remontoirlaw12_SynthPeriods.j0 k l0 a1 a2 ((l0.length : Int) == 0))) = some true := h
  clear h
  have HC4 := Aside0.mk H
  clear H
  go_enter Try.func8, Try.ntmps8
  go_upto_region 1 with (fail)
  go_cut [20] (fun v20 wc => ∃ (kq : Nat) (x20_3 : Bool), v20 = .bool x20_3 ∧ Aside0 (remontoirlaw12_SynthPeriods.j0 kq l0 a1 a2 x20_3 = some true) ∧ Aside0 (kq ≤ k) ∧ Aside0 (Below w.heap.size w wc))
  case first =>
    have H := HC4.out
    clear HC4
    by_cases c5 : (l0.length : Int) > 20
    · rw [if_pos c5] at H
      have c5b0 : decide (20 < (l0.length : Int)) = true := decide_eq_true c5
      have c5b1 : decide (20 < l0.length) = true := decide_eq_true (by omega)
      clear c5
      (first | rw [c5b0] | (simp only [i64_w, i32_w]; rw [c5b0]) | rw [c5b1] | (simp only [i64_w, i32_w]; rw [c5b1]) | skip)
      have H' := Aside0.mk H
      clear H
      go_wp2
      go_meet
      case rel => exact ⟨_, (true), (by first | rfl | (simp; done) | (simp [*]; done)), H', ⟨by first | omega | exact Nat.le_refl _⟩, ⟨by repeat (first | (with_reducible first | exact HB.out | apply below_alloc | apply pw_below_drewN | apply below_drew1) | exact HB.out)⟩⟩
    · rw [if_neg c5] at H
      have c5b0 : decide (20 < (l0.length : Int)) = false := decide_eq_false c5
      have c5b1 : decide (20 < l0.length) = false := decide_eq_false (by omega)
      clear c5
      (first | rw [c5b0] | (simp only [i64_w, i32_w]; rw [c5b0]) | rw [c5b1] | (simp only [i64_w, i32_w]; rw [c5b1]) | skip)
      have H' := Aside0.mk H
      clear H
      go_wp2
      go_meet
      case rel => exact ⟨_, (((l0.length : Int) == 0)), (by first | rfl | (simp; done) | (simp [*]; done)), H', ⟨by first | omega | exact Nat.le_refl _⟩, ⟨by repeat (first | (with_reducible first | exact HB.out | apply below_alloc | apply pw_below_drewN | apply below_drew1) | exact HB.out)⟩⟩
  case rest =>
    clear HC4
    try clear p2
    try clear c5
    try clear c5b0
    try clear c5b1
    obtain ⟨kq, x20_3, rfl, HA, HJ3, HB⟩ := hcut
    cases kq with
    | zero => exact absurd HA.out (by simp [remontoirlaw12_SynthPeriods.j0])
    | succ kj3 =>
      have H := HA.out
      clear HA
      simp only [remontoirlaw12_SynthPeriods.j0] at H
      by_cases c6 : x20_3 = true
      · subst c6
        have H1 : ((remontoirlaw12_knows.f kj3).bind fun t181 => (some t181)) = some true := by rw [if_pos rfl] at H; exact H
        clear H
        have H := H1
        clear H1
        replace H := Option.bind_eq_some_iff.mp H
        obtain ⟨t181, A70, H⟩ := H
        replace H : (some t181) = some true := H
        have A7 := Aside0.mk A70
        clear A70
        have HR_ := Aside0.mk (Option.some.inj H)
        clear H
        go_wp2_with (first | ((with_reducible refine gate_callee (f := 25) rfl ?_); refine goesL_ (some 21) rfl rfl Try.func25 (by kernel_rfl) rfl #[] rfl (by (try simp only [List.map_toArray, List.map_cons, List.map_nil]); first | done | rfl | (simp only [List.length_drop, List.length_take]; rfl)) ?_; (with_reducible refine (remontoirlaw12_knows.calls kj3  t181 _ A7.out).mono ?_); rintro e w8 ⟨rfl, hb⟩; refine ⟨_, rfl, ?_⟩; have n0_ := Aside0.mk (below_step (by repeat (first | (with_reducible first | exact HB.out | apply below_alloc | apply pw_below_drewN | apply below_drew1) | exact HB.out)) hb); clear HB; have HB := n0_; clear n0_; (try clear hb); (try clear hb2); (try clear hk); (try clear hi)))
        go_ret
        exact ⟨by first | rfl | (rw [HR_.out] <;> rfl) | (simp [errW_none, errW_some] <;> rfl) | (simp [*, errW_none, errW_some] <;> rfl), by repeat (first | (with_reducible first | exact HB.out | apply below_alloc | apply pw_below_drewN | apply below_drew1) | exact HB.out)⟩
      · replace c6 := Bool.eq_false_iff.mpr c6
        subst c6
        have H1 : ((synth_Lay.f kj3 l0).bind fun bt182 => (if bt182.2 = 0 then (if (l0.length : Int) = 0 then (none) else (if (bt182.1.length : Int) = 0 then (some false) else (if 0 ≤ (Int.tmod (wrap64 (a1)) (l0.length : Int)) then (if (Int.tmod (wrap64 (a1)) (l0.length : Int)) < (l0.length : Int) then (remontoirlaw12_SynthPeriods.l0 kj3 l0 bt182.1 (Int.tmod (wrap64 (a1)) (l0.length : Int)) (Int.tmod (wrap64 ((wrap64 (a2)) * ((rd_T54 l0 (Int.tmod (wrap64 (a1)) (l0.length : Int))).f0))) (bt182.1.length : Int)) 0 (Int.tmod (wrap64 ((wrap64 (a2)) * ((rd_T54 l0 (Int.tmod (wrap64 (a1)) (l0.length : Int))).f0))) (bt182.1.length : Int))) else (none)) else (none)))) else (if (bt182.1.length : Int) = 0 then ((remontoirlaw12_knows.f kj3).bind fun t186 => (some t186)) else (some false)))) = some true := by rw [if_neg (show ¬ (false = true) by decide)] at H; exact H
        clear H
        have H := H1
        clear H1
        replace H := Option.bind_eq_some_iff.mp H
        obtain ⟨⟨t182, t183⟩, A90, H⟩ := H
        replace H : (if t183 = 0 then (if (l0.length : Int) = 0 then (none) else (if (t182.length : Int) = 0 then (some false) else (if 0 ≤ (Int.tmod (wrap64 (a1)) (l0.length : Int)) then (if (Int.tmod (wrap64 (a1)) (l0.length : Int)) < (l0.length : Int) then (remontoirlaw12_SynthPeriods.l0 kj3 l0 t182 (Int.tmod (wrap64 (a1)) (l0.length : Int)) (Int.tmod (wrap64 ((wrap64 (a2)) * ((rd_T54 l0 (Int.tmod (wrap64 (a1)) (l0.length : Int))).f0))) (t182.length : Int)) 0 (Int.tmod (wrap64 ((wrap64 (a2)) * ((rd_T54 l0 (Int.tmod (wrap64 (a1)) (l0.length : Int))).f0))) (t182.length : Int))) else (none)) else (none)))) else (if (t182.length : Int) = 0 then ((remontoirlaw12_knows.f kj3).bind fun t186 => (some t186)) else (some false))) = some true := H
        have A9 := Aside0.mk A90
        clear A90
        by_cases c10 : t183 = 0
        · rw [if_pos c10] at H
          have c10b0 : (t183 == 0) = true := beq_iff_eq.mpr c10
          have c10b1 : (t183 != 0) = false := bne_eq_false_iff_eq.mpr c10
          clear c10
          by_cases c11 : (l0.length : Int) = 0
          · rw [if_pos c11] at H
            exact absurd H (by simp)
          · rw [if_neg c11] at H
            have c11b0 : ((l0.length : Int) == 0) = false := beq_eq_false_iff_ne.mpr c11
            have c11b1 : ((l0.length : Int) != 0) = true := bne_iff_ne.mpr c11
            have c11b2 : ¬ (l0 = []) := fun h_ => c11 (by rw [h_]; rfl)
            by_cases c12 : (t182.length : Int) = 0
            · rw [if_pos c12] at H
              have c12b0 : ((t182.length : Int) == 0) = true := beq_iff_eq.mpr c12
              have c12b1 : ((t182.length : Int) != 0) = false := bne_eq_false_iff_eq.mpr c12
              clear c12
              exact absurd H (by simp)
            · rw [if_neg c12] at H
              have c12b0 : ((t182.length : Int) == 0) = false := beq_eq_false_iff_ne.mpr c12
              have c12b1 : ((t182.length : Int) != 0) = true := bne_iff_ne.mpr c12
              have c12b2 : ¬ (t182 = []) := fun h_ => c12 (by rw [h_]; rfl)
              obtain ⟨ji13, hji13⟩ : ∃ j_ : Int, (Int.tmod (wrap64 (a1)) (l0.length : Int)) = j_ := ⟨_, rfl⟩
              replace H : (if 0 ≤ (ji13) then (if (ji13) < (l0.length : Int) then (remontoirlaw12_SynthPeriods.l0 kj3 l0 t182 ji13 (Int.tmod (wrap64 ((wrap64 (a2)) * ((rd_T54 l0 (ji13)).f0))) (t182.length : Int)) 0 (Int.tmod (wrap64 ((wrap64 (a2)) * ((rd_T54 l0 (ji13)).f0))) (t182.length : Int))) else (none)) else (none)) = some true := by first | (rw [hji13] at H; exact H) | (simp only [hji13] at H ⊢; exact H)
              (try rw [hji13] at A9)
              by_cases c14 : 0 ≤ (ji13)
              · rw [if_pos c14] at H
                have c14b0 : decide (0 ≤ (ji13)) = true := decide_eq_true c14
                clear c14
                by_cases c15 : (ji13) < (l0.length : Int)
                · rw [if_pos c15] at H
                  have c15b0 : decide ((ji13) < (l0.length : Int)) = true := decide_eq_true c15
                  clear c15
                  have H' := Aside0.mk H
                  clear H
                  go_wp2_with (first | ((with_reducible refine gate_callee (f := 26) rfl ?_); refine goesL_ (some 24) rfl rfl Try.func26 (by kernel_rfl) rfl #[.slice A0 l0.length c0] rfl (by (try simp only [List.map_toArray, List.map_cons, List.map_nil]); first | done | rfl | (simp only [List.length_drop, List.length_take]; rfl)) ?_; (with_reducible refine (synth_Lay.calls kj3 _ _ l0 t182 t183 _ ?side1 ?side2 A9.out).mono ?_); (case side1 => repeat (first | exact (Kd.C_below HR0.out HB.out) | (with_reducible refine Kd.C_alloc ?_ _) | (with_reducible refine Kd.C_drewN ?_ _) | (with_reducible refine Kd.C_drew ?_))); (case side2 => exact HC0.out); rintro e w16 ⟨v184, rfl, ho0, hb⟩; refine ⟨_, rfl, ?_⟩; have n0_ := Aside0.mk (Kd.R_lower ho0 (below_size (by repeat (first | (with_reducible first | exact HB.out | apply below_alloc | apply pw_below_drewN | apply below_drew1) | exact HB.out)))); have n1_ := Aside0.mk (below_step (by repeat (first | (with_reducible first | exact HB.out | apply below_alloc | apply pw_below_drewN | apply below_drew1) | exact HB.out)) hb); clear HB; have HO185 := n0_; have HB := n1_; clear n0_ n1_; (try clear hb); (try clear hb2); (try clear hk); (try clear hi); (try clear ho0); obtain ⟨Ao17, co17, eo17⟩ := Kd.R_slice HO185.out; subst eo17; have p187 : 0 ≤ ((ji13) : Int) := of_decide_eq_true (by first | (with_reducible assumption) | assumption); have q187 : (ji13) < (l0.length : Int) := of_decide_eq_true (by first | (with_reducible assumption) | assumption); obtain ⟨ad187, e187, hx187_0, hx187_1⟩ := at_T54 HR0.out (ji13) p187 q187; cases e187; replace hx187_0 := (HB.out.cell (World.block_lt_of_cell? w _ hx187_0)).trans hx187_0; replace hx187_1 := (HB.out.cell (World.block_lt_of_cell? w _ hx187_1)).trans hx187_1; replace p187 := eq_true p187; replace q187 := eq_true q187))
                  go_loopg [11, 12] kj3 (fun kq v11 v12 w' => ∃ (x11_2 : Int) (x12_2 : Int), v11 = .int .i64 x11_2 ∧ v12 = .int .i64 x12_2 ∧ Aside0 (remontoirlaw12_SynthPeriods.l0 kq l0 t182 ji13 (Int.tmod (wrap64 ((wrap64 (a2)) * ((rd_T54 l0 (ji13)).f0))) (t182.length : Int)) x11_2 x12_2 = some true) ∧ Aside0 (kq ≤ kj3) ∧ Aside0 (Kd.R (Kd.int .i64) 3 w' w.heap.size (fun _ => True) (.slice Ao17 t182.length co17) t182) ∧ Aside0 (Below w.heap.size w w'))
                  case atStart => exact ⟨(0), (Int.tmod (wrap64 ((wrap64 (a2)) * ((rd_T54 l0 (ji13)).f0))) (t182.length : Int)), (by first | rfl | (simp; done) | (simp [*]; done)), (by first | rfl | (simp; done) | (simp only [← hji13] <;> (first | rfl | simp)) | (simp [*]; done)), H', ⟨Nat.le_refl _⟩, ⟨by (with_reducible repeat (first | apply Kd.R_alloc | apply Kd.R_drewN | apply Kd.R_drew)); exact HO185.out⟩, ⟨by repeat (first | (with_reducible first | exact HB.out | apply below_alloc | apply pw_below_drewN | apply below_drew1) | exact HB.out)⟩⟩
                  case round =>
                    clear H'
                    try clear c1
                    try clear p1
                    try clear q1
                    try clear hx1
                    try clear c2
                    try clear p2
                    try clear c5
                    try clear c5b0
                    try clear c5b1
                    try clear c6
                    try clear p6
                    try clear c8
                    try clear c10
                    try clear c10b0
                    try clear c10b1
                    try clear c11
                    try clear c11b0
                    try clear c11b1
                    try clear c11b2
                    try clear c12
                    try clear c12b0
                    try clear c12b1
                    try clear c12b2
                    try clear c14
                    try clear c14b0
                    try clear c15
                    try clear c15b0
                    try clear hx187_0
                    try clear hx187_1
                    try clear p187
                    try clear p2
                    try clear q187
                    obtain ⟨x11_2, x12_2, rfl, rfl, HA, HK2, HO_7, HB⟩ := hrel
                    cases gk with
                    | zero => exact absurd HA.out (by simp [remontoirlaw12_SynthPeriods.l0])
                    | succ k2 =>
                      have H := HA.out
                      clear HA
                      simp only [remontoirlaw12_SynthPeriods.l0] at H
                      by_cases c18 : 0 ≤ ji13
                      · rw [if_pos c18] at H
                        have c18b0 : decide (0 ≤ ji13) = true := decide_eq_true c18
                        clear c18
                        by_cases c19 : ji13 < (l0.length : Int)
                        · rw [if_pos c19] at H
                          have c19b0 : decide (ji13 < (l0.length : Int)) = true := decide_eq_true c19
                          clear c19
                          by_cases c20 : x12_2 < (wrap64 ((Int.tmod (wrap64 ((wrap64 (a2)) * ((rd_T54 l0 (ji13)).f0))) (t182.length : Int)) + ((rd_T54 l0 ji13).f0)))
                          · rw [if_pos c20] at H
                            have c20b0 : decide (x12_2 < (wrap64 ((Int.tmod (wrap64 ((wrap64 (a2)) * ((rd_T54 l0 (ji13)).f0))) (t182.length : Int)) + ((rd_T54 l0 ji13).f0)))) = true := decide_eq_true c20
                            clear c20
                            by_cases c21 : 0 ≤ x12_2
                            · rw [if_pos c21] at H
                              have c21b0 : decide (0 ≤ x12_2) = true := decide_eq_true c21
                              clear c21
                              by_cases c22 : x12_2 < (t182.length : Int)
                              · rw [if_pos c22] at H
                                have c22b0 : decide (x12_2 < (t182.length : Int)) = true := decide_eq_true c22
                                clear c22
                                by_cases c23 : (rd t182 x12_2) = ji13
                                · rw [if_pos c23] at H
                                  have c23b0 : ((rd t182 x12_2) == ji13) = true := beq_iff_eq.mpr c23
                                  have c23b1 : ((rd t182 x12_2) != ji13) = false := bne_eq_false_iff_eq.mpr c23
                                  clear c23
                                  have H' := Aside0.mk H
                                  clear H
                                  have p188 : 0 ≤ (ji13 : Int) := of_decide_eq_true (by first | (with_reducible assumption) | assumption)
                                  have q188 : ji13 < (l0.length : Int) := of_decide_eq_true (by first | (with_reducible assumption) | assumption)
                                  obtain ⟨ad188, e188, hx188_0, hx188_1⟩ := at_T54 HR0.out ji13 p188 q188
                                  obtain rfl : ad187 = ad188 := (by injection e188)
                                  replace hx188_0 := (HB.out.cell (World.block_lt_of_cell? w _ hx188_0)).trans hx188_0
                                  replace hx188_1 := (HB.out.cell (World.block_lt_of_cell? w _ hx188_1)).trans hx188_1
                                  replace p188 := eq_true p188
                                  replace q188 := eq_true q188
                                  have p189 : 0 ≤ (x12_2 : Int) := of_decide_eq_true (by first | (with_reducible assumption) | assumption)
                                  have q189 : x12_2 < (t182.length : Int) := of_decide_eq_true (by first | (with_reducible assumption) | assumption)
                                  obtain ⟨ad189, e189, hx189_0⟩ := Kd.at_int (Kd.R_reads' HO_7.out).2.2 x12_2 p189 q189
                                  cases e189
                                  replace p189 := eq_true p189
                                  replace q189 := eq_true q189
                                  go_wp2
                                  go_roundg k2
                                  case measure => have := HJ3.out; have := HK2.out; omega
                                  case rel => exact ⟨(wrap64 (x11_2 + 1)), (wrap64 (x12_2 + 1)), (by first | rfl | (simp; done) | (simp [*]; done)), (by first | rfl | (simp; done) | (simp [*]; done)), H', ⟨by have := HJ3.out; have := HK2.out; omega⟩, ⟨by (with_reducible repeat (first | apply Kd.R_alloc | apply Kd.R_drewN | apply Kd.R_drew)); exact HO_7.out⟩, ⟨by repeat (first | (with_reducible first | exact HB.out | apply below_alloc | apply pw_below_drewN | apply below_drew1) | exact HB.out)⟩⟩
                                · rw [if_neg c23] at H
                                  have c23b0 : ((rd t182 x12_2) == ji13) = false := beq_eq_false_iff_ne.mpr c23
                                  have c23b1 : ((rd t182 x12_2) != ji13) = true := bne_iff_ne.mpr c23
                                  have H' := Aside0.mk H
                                  clear H
                                  have p188 : 0 ≤ (ji13 : Int) := of_decide_eq_true (by first | (with_reducible assumption) | assumption)
                                  have q188 : ji13 < (l0.length : Int) := of_decide_eq_true (by first | (with_reducible assumption) | assumption)
                                  obtain ⟨ad188, e188, hx188_0, hx188_1⟩ := at_T54 HR0.out ji13 p188 q188
                                  obtain rfl : ad187 = ad188 := (by injection e188)
                                  replace hx188_0 := (HB.out.cell (World.block_lt_of_cell? w _ hx188_0)).trans hx188_0
                                  replace hx188_1 := (HB.out.cell (World.block_lt_of_cell? w _ hx188_1)).trans hx188_1
                                  replace p188 := eq_true p188
                                  replace q188 := eq_true q188
                                  have p189 : 0 ≤ (x12_2 : Int) := of_decide_eq_true (by first | (with_reducible assumption) | assumption)
                                  have q189 : x12_2 < (t182.length : Int) := of_decide_eq_true (by first | (with_reducible assumption) | assumption)
                                  obtain ⟨ad189, e189, hx189_0⟩ := Kd.at_int (Kd.R_reads' HO_7.out).2.2 x12_2 p189 q189
                                  cases e189
                                  replace p189 := eq_true p189
                                  replace q189 := eq_true q189
                                  go_wp2
                                  go_roundg k2
                                  case measure => have := HJ3.out; have := HK2.out; omega
                                  case rel => exact ⟨(x11_2), (wrap64 (x12_2 + 1)), (by first | rfl | (simp; done) | (simp [*]; done)), (by first | rfl | (simp; done) | (simp [*]; done)), H', ⟨by have := HJ3.out; have := HK2.out; omega⟩, ⟨by (with_reducible repeat (first | apply Kd.R_alloc | apply Kd.R_drewN | apply Kd.R_drew)); exact HO_7.out⟩, ⟨by repeat (first | (with_reducible first | exact HB.out | apply below_alloc | apply pw_below_drewN | apply below_drew1) | exact HB.out)⟩⟩
                              · rw [if_neg c22] at H
                                exact absurd H (by simp)
                            · rw [if_neg c21] at H
                              exact absurd H (by simp)
                          · rw [if_neg c20] at H
                            have c20b0 : decide (x12_2 < (wrap64 ((Int.tmod (wrap64 ((wrap64 (a2)) * ((rd_T54 l0 (ji13)).f0))) (t182.length : Int)) + ((rd_T54 l0 ji13).f0)))) = false := decide_eq_false c20
                            clear c20
                            by_cases c24 : x11_2 = ((rd_T54 l0 ji13).f1)
                            · rw [if_pos c24] at H
                              have c24b0 : (x11_2 == ((rd_T54 l0 ji13).f1)) = true := beq_iff_eq.mpr c24
                              have c24b1 : (x11_2 != ((rd_T54 l0 ji13).f1)) = false := bne_eq_false_iff_eq.mpr c24
                              clear c24
                              replace H := Option.bind_eq_some_iff.mp H
                              obtain ⟨t191, A250, H⟩ := H
                              replace H : (some t191) = some true := H
                              have A25 := Aside0.mk A250
                              clear A250
                              have HR_ := Aside0.mk (Option.some.inj H)
                              clear H
                              have p188 : 0 ≤ (ji13 : Int) := of_decide_eq_true (by first | (with_reducible assumption) | assumption)
                              have q188 : ji13 < (l0.length : Int) := of_decide_eq_true (by first | (with_reducible assumption) | assumption)
                              obtain ⟨ad188, e188, hx188_0, hx188_1⟩ := at_T54 HR0.out ji13 p188 q188
                              obtain rfl : ad187 = ad188 := (by injection e188)
                              replace hx188_0 := (HB.out.cell (World.block_lt_of_cell? w _ hx188_0)).trans hx188_0
                              replace hx188_1 := (HB.out.cell (World.block_lt_of_cell? w _ hx188_1)).trans hx188_1
                              replace p188 := eq_true p188
                              replace q188 := eq_true q188
                              have p190 : 0 ≤ (ji13 : Int) := of_decide_eq_true (by first | (with_reducible assumption) | assumption)
                              have q190 : ji13 < (l0.length : Int) := of_decide_eq_true (by first | (with_reducible assumption) | assumption)
                              obtain ⟨ad190, e190, hx190_0, hx190_1⟩ := at_T54 HR0.out ji13 p190 q190
                              obtain rfl : ad187 = ad190 := (by injection e190)
                              replace hx190_0 := (HB.out.cell (World.block_lt_of_cell? w _ hx190_0)).trans hx190_0
                              replace hx190_1 := (HB.out.cell (World.block_lt_of_cell? w _ hx190_1)).trans hx190_1
                              replace p190 := eq_true p190
                              replace q190 := eq_true q190
                              go_wp2_with (first | (go_at_call 25; (with_reducible refine (remontoirlaw12_knows.calls k2  t191 _ A25.out).mono ?_); rintro e w26 ⟨rfl, hb⟩; have n0_ := Aside0.mk (Kd.R_below (by (with_reducible repeat (first | apply Kd.R_alloc | apply Kd.R_drewN | apply Kd.R_drew)); exact HO_7.out) hb); have n1_ := Aside0.mk (below_step (by repeat (first | (with_reducible first | exact HB.out | apply below_alloc | apply pw_below_drewN | apply below_drew1) | exact HB.out)) hb); clear HO_7; clear HB; have HO_7 := n0_; have HB := n1_; clear n0_ n1_; (try clear hb); (try clear hb2); (try clear hk); (try clear hi)))
                              go_ret
                              exact ⟨by first | rfl | (rw [HR_.out] <;> rfl) | (simp [errW_none, errW_some] <;> rfl) | (simp only [← hji13]; first | rfl | (simp [errW_none, errW_some] <;> rfl)) | (simp [*, errW_none, errW_some] <;> rfl), by repeat (first | (with_reducible first | exact HB.out | apply below_alloc | apply pw_below_drewN | apply below_drew1) | exact HB.out)⟩
                            · rw [if_neg c24] at H
                              have c24b0 : (x11_2 == ((rd_T54 l0 ji13).f1)) = false := beq_eq_false_iff_ne.mpr c24
                              have c24b1 : (x11_2 != ((rd_T54 l0 ji13).f1)) = true := bne_iff_ne.mpr c24
                              exact absurd H (by simp)
                        · rw [if_neg c19] at H
                          exact absurd H (by simp)
                      · rw [if_neg c18] at H
                        exact absurd H (by simp)
                · rw [if_neg c15] at H
                  exact absurd H (by simp)
              · rw [if_neg c14] at H
                exact absurd H (by simp)
        · rw [if_neg c10] at H
          have c10b0 : (t183 == 0) = false := beq_eq_false_iff_ne.mpr c10
          have c10b1 : (t183 != 0) = true := bne_iff_ne.mpr c10
          by_cases c27 : (t182.length : Int) = 0
          · rw [if_pos c27] at H
            have c27b0 : ((t182.length : Int) == 0) = true := beq_iff_eq.mpr c27
            have c27b1 : ((t182.length : Int) != 0) = false := bne_eq_false_iff_eq.mpr c27
            clear c27
            replace H := Option.bind_eq_some_iff.mp H
            obtain ⟨t186, A280, H⟩ := H
            replace H : (some t186) = some true := H
            have A28 := Aside0.mk A280
            clear A280
            have HR_ := Aside0.mk (Option.some.inj H)
            clear H
            go_wp2_with (first | ((with_reducible refine gate_callee (f := 26) rfl ?_); refine goesL_ (some 24) rfl rfl Try.func26 (by kernel_rfl) rfl #[.slice A0 l0.length c0] rfl (by (try simp only [List.map_toArray, List.map_cons, List.map_nil]); first | done | rfl | (simp only [List.length_drop, List.length_take]; rfl)) ?_; (with_reducible refine (synth_Lay.calls kj3 _ _ l0 t182 t183 _ ?side1 ?side2 A9.out).mono ?_); (case side1 => repeat (first | exact (Kd.C_below HR0.out HB.out) | (with_reducible refine Kd.C_alloc ?_ _) | (with_reducible refine Kd.C_drewN ?_ _) | (with_reducible refine Kd.C_drew ?_))); (case side2 => exact HC0.out); rintro e w29 ⟨v184, rfl, ho0, hb⟩; refine ⟨_, rfl, ?_⟩; have n0_ := Aside0.mk (Kd.R_lower ho0 (below_size (by repeat (first | (with_reducible first | exact HB.out | apply below_alloc | apply pw_below_drewN | apply below_drew1) | exact HB.out)))); have n1_ := Aside0.mk (below_step (by repeat (first | (with_reducible first | exact HB.out | apply below_alloc | apply pw_below_drewN | apply below_drew1) | exact HB.out)) hb); clear HB; have HO185 := n0_; have HB := n1_; clear n0_ n1_; (try clear hb); (try clear hb2); (try clear hk); (try clear hi); (try clear ho0); obtain ⟨Ao30, co30, eo30⟩ := Kd.R_slice HO185.out; subst eo30) | (go_at_call 25; (with_reducible refine (remontoirlaw12_knows.calls kj3  t186 _ A28.out).mono ?_); rintro e w31 ⟨rfl, hb⟩; have n0_ := Aside0.mk (Kd.R_below (by (with_reducible repeat (first | apply Kd.R_alloc | apply Kd.R_drewN | apply Kd.R_drew)); exact HO185.out) hb); have n1_ := Aside0.mk (below_step (by repeat (first | (with_reducible first | exact HB.out | apply below_alloc | apply pw_below_drewN | apply below_drew1) | exact HB.out)) hb); clear HO185; clear HB; have HO185 := n0_; have HB := n1_; clear n0_ n1_; (try clear hb); (try clear hb2); (try clear hk); (try clear hi)))
            go_ret
            exact ⟨by first | rfl | (rw [HR_.out] <;> rfl) | (simp [errW_none, errW_some] <;> rfl) | (simp [*, errW_none, errW_some] <;> rfl), by repeat (first | (with_reducible first | exact HB.out | apply below_alloc | apply pw_below_drewN | apply below_drew1) | exact HB.out)⟩
          · rw [if_neg c27] at H
            have c27b0 : ((t182.length : Int) == 0) = false := beq_eq_false_iff_ne.mpr c27
            have c27b1 : ((t182.length : Int) != 0) = true := bne_iff_ne.mpr c27
            have c27b2 : ¬ (t182 = []) := fun h_ => c27 (by rw [h_]; rfl)
            exact absurd H (by simp)

/-- The statement of remontoirlaw12_SynthPeriods over plain data. -/
def remontoirlaw12_SynthPeriods.Pure : Prop := ∀ (l0 : List (S54)) (a1 : Int) (a2 : Int), (l0.length ≤ 9223372036854775807 ∧ ∀ x ∈ l0, ((Lit.int .i64 x.f0).wf = true ∧ (Lit.int .i64 x.f1).wf = true)) → (Lit.int .u8 a1).wf = true → (Lit.int .u8 a2).wf = true → ∃ k, remontoirlaw12_SynthPeriods.f k l0 a1 a2 = some true

/-! ### synth_Share: function 29 -/
def synth_Share.l0 : Nat → Int → Int → List (S54) → Int → Int → Option (Int × Int × Int)
  | 0, _, _, _, _, _ => none
  | k + 1, x5, x7, x18, x19, x20 => if x20 < x19 then (if 0 ≤ x20 then (if x20 < (x18.length : Int) then (if ((rd_T54 x18 x20).f0) = 0 then (none) else (synth_Share.l0 k x5 (wrap64 (x7 + (wrap64 ((wrap64 (Int.tdiv x5 ((rd_T54 x18 x20).f0))) * ((rd_T54 x18 x20).f1))))) x18 x19 (wrap64 (x20 + 1)))) else (none)) else (none)) else (some (x7, x5, 0))
def synth_Share.f (k : Nat) (l0 : List (S54)) : Option (Int × Int × Int) := (synth_Frame.f k l0).bind fun bt192 => (if bt192.2 = 0 then (synth_Share.l0 k bt192.1 0 l0 (l0.length : Int) 0) else (some (0, 0, bt192.2)))
theorem synth_Share.mono_l : ∀ k, (∀ y0 y1 y2 y3 y4, LeO (synth_Share.l0 k y0 y1 y2 y3 y4) (synth_Share.l0 (k + 1) y0 y1 y2 y3 y4))
  | 0 => fun _ _ _ _ _ r h => by simp [synth_Share.l0] at h
  | k + 1 => by
    have ih0 := synth_Share.mono_l k
    · intro y0 y1 y2 y3 y4
      unfold synth_Share.l0
      repeat' first
      | (with_reducible exact ih0 _ _ _ _ _)
      | (with_reducible exact synth_Frame.mono _ _)
      | (with_reducible exact LeO.refl _)
      | (with_reducible exact LeO.none _)
      | (with_reducible refine LeO.ite ?_ ?_)
      | (with_reducible refine LeO.bind ?_ (fun _ => ?_))
      | exact ih0 _ _ _ _ _
      | exact synth_Frame.mono _ _
      | exact LeO.none _
      | refine LeO.ite ?_ ?_
      | refine LeO.bind ?_ (fun _ => ?_)
theorem synth_Share.mono : ∀ a0 k, LeO (synth_Share.f k a0) (synth_Share.f (k + 1) a0) := by
  intro a0 k
  have ih0 := synth_Share.mono_l k
  unfold synth_Share.f
  repeat' first
      | (with_reducible exact ih0 _ _ _ _ _)
      | (with_reducible exact synth_Frame.mono _ _)
      | (with_reducible exact LeO.refl _)
      | (with_reducible exact LeO.none _)
      | (with_reducible refine LeO.ite ?_ ?_)
      | (with_reducible refine LeO.bind ?_ (fun _ => ?_))
      | exact ih0 _ _ _ _ _
      | exact synth_Frame.mono _ _
      | exact LeO.none _
      | refine LeO.ite ?_ ?_
      | refine LeO.bind ?_ (fun _ => ?_)
set_option maxHeartbeats 8000000 in
set_option maxRecDepth 100000 in
theorem synth_Share.calls (k : Nat) (A0 : Option Addr) (c0 : Nat) (l0 : List (S54)) (r1 : Int) (r2 : Int) (r3 : Int) (w : World) (hr0 : Kd.C k54 w A0 l0.length l0) (hc0 : l0.length ≤ c0) (h : synth_Share.f k l0 = some (r1, r2, r3)) :
    Calls Try.prog 29 #[.slice A0 l0.length c0] w fun e w' => e = .returned (.tuple #[.int .i64 r1, .int .i64 r2, .int .i64 r3]) ∧ Below w.heap.size w w' := by
  have hu54 := Try.underlying54
  have HR0 := Aside0.mk hr0
  have HC0 := Aside0.mk hc0
  clear hr0 hc0
  have HB := Aside0.mk (Below.refl w.heap.size w)
  have H : ((synth_Frame.f k l0).bind fun bt192 => (if bt192.2 = 0 then (synth_Share.l0 k bt192.1 0 l0 (l0.length : Int) 0) else (some (0, 0, bt192.2)))) = some (r1, r2, r3) := h
  clear h
  replace H := Option.bind_eq_some_iff.mp H
  obtain ⟨⟨t192, t193⟩, A20, H⟩ := H
  replace H : (if t193 = 0 then (synth_Share.l0 k t192 0 l0 (l0.length : Int) 0) else (some (0, 0, t193))) = some (r1, r2, r3) := H
  have A2 := Aside0.mk A20
  clear A20
  by_cases c3 : t193 = 0
  · rw [if_pos c3] at H
    have c3b0 : (t193 == 0) = true := beq_iff_eq.mpr c3
    have c3b1 : (t193 != 0) = false := bne_eq_false_iff_eq.mpr c3
    clear c3
    have H' := Aside0.mk H
    clear H
    go_enter Try.func29, Try.ntmps29
    go_wp2_with (first | (go_at_call 28; (with_reducible refine (synth_Frame.calls k _ _ l0 t192 t193 _ ?side1 ?side2 A2.out).mono ?_); (case side1 => repeat (first | exact HR0.out | (with_reducible refine Kd.C_alloc ?_ _) | (with_reducible refine Kd.C_drewN ?_ _) | (with_reducible refine Kd.C_drew ?_))); (case side2 => exact HC0.out); rintro e w4 ⟨rfl, hb⟩; have n0_ := Aside0.mk (below_step (by repeat (first | (with_reducible first | exact HB.out | apply below_alloc | apply pw_below_drewN | apply below_drew1) | exact HB.out)) hb); clear HB; have HB := n0_; clear n0_; (try clear hb); (try clear hb2); (try clear hk); (try clear hi)))
    repeat (go_quiet (first | (go_at_call 28; (with_reducible refine (synth_Frame.calls k _ _ l0 t192 t193 _ ?side1 ?side2 A2.out).mono ?_); (case side1 => repeat (first | exact HR0.out | (with_reducible refine Kd.C_alloc ?_ _) | (with_reducible refine Kd.C_drewN ?_ _) | (with_reducible refine Kd.C_drew ?_))); (case side2 => exact HC0.out); rintro e w4 ⟨rfl, hb⟩; have n0_ := Aside0.mk (below_step (by repeat (first | (with_reducible first | exact HB.out | apply below_alloc | apply pw_below_drewN | apply below_drew1) | exact HB.out)) hb); clear HB; have HB := n0_; clear n0_; (try clear hb); (try clear hb2); (try clear hk); (try clear hi))); try go_wp2_with (first | (go_at_call 28; (with_reducible refine (synth_Frame.calls k _ _ l0 t192 t193 _ ?side1 ?side2 A2.out).mono ?_); (case side1 => repeat (first | exact HR0.out | (with_reducible refine Kd.C_alloc ?_ _) | (with_reducible refine Kd.C_drewN ?_ _) | (with_reducible refine Kd.C_drew ?_))); (case side2 => exact HC0.out); rintro e w4 ⟨rfl, hb⟩; have n0_ := Aside0.mk (below_step (by repeat (first | (with_reducible first | exact HB.out | apply below_alloc | apply pw_below_drewN | apply below_drew1) | exact HB.out)) hb); clear HB; have HB := n0_; clear n0_; (try clear hb); (try clear hb2); (try clear hk); (try clear hi))))
    go_loopg [7, 20] k (fun kq v7 v20 w' => ∃ (x7_1 : Int) (x20_1 : Int), v7 = .int .i64 x7_1 ∧ v20 = .int .i64 x20_1 ∧ Aside0 (synth_Share.l0 kq t192 x7_1 l0 (l0.length : Int) x20_1 = some (r1, r2, r3)) ∧ Aside0 (kq ≤ k) ∧ Aside0 (Below w.heap.size w w'))
    case atStart => exact ⟨(0), (0), (by first | rfl | (simp; done) | (simp [*]; done)), (by first | rfl | (simp; done) | (simp [*]; done)), H', ⟨Nat.le_refl _⟩, ⟨by repeat (first | (with_reducible first | exact HB.out | apply below_alloc | apply pw_below_drewN | apply below_drew1) | exact HB.out)⟩⟩
    case round =>
      clear H'
      try clear c2
      try clear p2
      try clear c3
      try clear c3b0
      try clear c3b1
      obtain ⟨x7_1, x20_1, rfl, rfl, HA, HK1, HB⟩ := hrel
      cases gk with
      | zero => exact absurd HA.out (by simp [synth_Share.l0])
      | succ k1 =>
        have H := HA.out
        clear HA
        simp only [synth_Share.l0] at H
        by_cases c5 : x20_1 < (l0.length : Int)
        · rw [if_pos c5] at H
          have c5b0 : decide (x20_1 < (l0.length : Int)) = true := decide_eq_true c5
          clear c5
          by_cases c6 : 0 ≤ x20_1
          · rw [if_pos c6] at H
            have c6b0 : decide (0 ≤ x20_1) = true := decide_eq_true c6
            clear c6
            by_cases c7 : x20_1 < (l0.length : Int)
            · rw [if_pos c7] at H
              have c7b0 : decide (x20_1 < (l0.length : Int)) = true := decide_eq_true c7
              clear c7
              by_cases c8 : ((rd_T54 l0 x20_1).f0) = 0
              · rw [if_pos c8] at H
                exact absurd H (by simp)
              · rw [if_neg c8] at H
                have c8b0 : (((rd_T54 l0 x20_1).f0) == 0) = false := beq_eq_false_iff_ne.mpr c8
                have c8b1 : (((rd_T54 l0 x20_1).f0) != 0) = true := bne_iff_ne.mpr c8
                have H' := Aside0.mk H
                clear H
                have p194 : 0 ≤ (x20_1 : Int) := of_decide_eq_true (by first | (with_reducible assumption) | assumption)
                have q194 : x20_1 < (l0.length : Int) := of_decide_eq_true (by first | (with_reducible assumption) | assumption)
                obtain ⟨ad194, e194, hx194_0, hx194_1⟩ := at_T54 HR0.out x20_1 p194 q194
                cases e194
                replace hx194_0 := (HB.out.cell (World.block_lt_of_cell? w _ hx194_0)).trans hx194_0
                replace hx194_1 := (HB.out.cell (World.block_lt_of_cell? w _ hx194_1)).trans hx194_1
                replace p194 := eq_true p194
                replace q194 := eq_true q194
                go_wp2_with (first | ((with_reducible refine gate_dst (N := 9) rfl ?_); refine box_event ?hg (N := 9) ?hd (cs := #[.int .i64 0, .int .i64 0]) (t := 54) ?hr ?_; (case hd => rfl); (case hg => rfl); (case hr => first | (go_simp; done) | (go_simp; rfl)); intro gb195 hg w9 hbox hb; have n0_ := Aside0.mk (below_step (by repeat (first | (with_reducible first | exact HB.out | apply below_alloc | apply pw_below_drewN | apply below_drew1) | exact HB.out)) hb); have n1_ := Aside0.mk (hbox); have n2_ := Aside0.mk ((by rw [hg]; exact (below_size (by repeat (first | (with_reducible first | exact HB.out | apply below_alloc | apply pw_below_drewN | apply below_drew1) | exact HB.out))) : w.heap.size ≤ gb195)); have n3_ := Aside0.mk ((by rw [hg]; exact (below_size (by repeat (first | (with_reducible first | exact HB.out | apply below_alloc | apply pw_below_drewN | apply below_drew1) | exact HB.out))) : w.heap.size ≤ gb195)); clear HB; have HB := n0_; have BK195 := n1_; have GW195 := n2_; have GE195 := n3_; clear n0_ n1_ n2_ n3_; clear hb hbox hg; have hcz10_0 : w9.cell? ⟨gb195, 0, none⟩ = some (.int .i64 0) := (blk_cell BK195.out 0).trans rfl; have hcz10_1 : w9.cell? ⟨gb195, 1, none⟩ = some (.int .i64 0) := (blk_cell BK195.out 1).trans rfl; have hfz10_0 := blk_frozen BK195.out 0; have hfz10_1 := blk_frozen BK195.out 1))
                repeat (go_quiet (first | ((with_reducible refine gate_dst (N := 9) rfl ?_); refine box_event ?hg (N := 9) ?hd (cs := #[.int .i64 0, .int .i64 0]) (t := 54) ?hr ?_; (case hd => rfl); (case hg => rfl); (case hr => first | (go_simp; done) | (go_simp; rfl)); intro gb195 hg w9 hbox hb; have n0_ := Aside0.mk (below_step (by repeat (first | (with_reducible first | exact HB.out | apply below_alloc | apply pw_below_drewN | apply below_drew1) | exact HB.out)) hb); have n1_ := Aside0.mk (hbox); have n2_ := Aside0.mk ((by rw [hg]; exact (below_size (by repeat (first | (with_reducible first | exact HB.out | apply below_alloc | apply pw_below_drewN | apply below_drew1) | exact HB.out))) : w.heap.size ≤ gb195)); have n3_ := Aside0.mk ((by rw [hg]; exact (below_size (by repeat (first | (with_reducible first | exact HB.out | apply below_alloc | apply pw_below_drewN | apply below_drew1) | exact HB.out))) : w.heap.size ≤ gb195)); clear HB; have HB := n0_; have BK195 := n1_; have GW195 := n2_; have GE195 := n3_; clear n0_ n1_ n2_ n3_; clear hb hbox hg; have hcz10_0 : w9.cell? ⟨gb195, 0, none⟩ = some (.int .i64 0) := (blk_cell BK195.out 0).trans rfl; have hcz10_1 : w9.cell? ⟨gb195, 1, none⟩ = some (.int .i64 0) := (blk_cell BK195.out 1).trans rfl; have hfz10_0 := blk_frozen BK195.out 0; have hfz10_1 := blk_frozen BK195.out 1)); try go_wp2_with (first | ((with_reducible refine gate_dst (N := 9) rfl ?_); refine box_event ?hg (N := 9) ?hd (cs := #[.int .i64 0, .int .i64 0]) (t := 54) ?hr ?_; (case hd => rfl); (case hg => rfl); (case hr => first | (go_simp; done) | (go_simp; rfl)); intro gb195 hg w9 hbox hb; have n0_ := Aside0.mk (below_step (by repeat (first | (with_reducible first | exact HB.out | apply below_alloc | apply pw_below_drewN | apply below_drew1) | exact HB.out)) hb); have n1_ := Aside0.mk (hbox); have n2_ := Aside0.mk ((by rw [hg]; exact (below_size (by repeat (first | (with_reducible first | exact HB.out | apply below_alloc | apply pw_below_drewN | apply below_drew1) | exact HB.out))) : w.heap.size ≤ gb195)); have n3_ := Aside0.mk ((by rw [hg]; exact (below_size (by repeat (first | (with_reducible first | exact HB.out | apply below_alloc | apply pw_below_drewN | apply below_drew1) | exact HB.out))) : w.heap.size ≤ gb195)); clear HB; have HB := n0_; have BK195 := n1_; have GW195 := n2_; have GE195 := n3_; clear n0_ n1_ n2_ n3_; clear hb hbox hg; have hcz10_0 : w9.cell? ⟨gb195, 0, none⟩ = some (.int .i64 0) := (blk_cell BK195.out 0).trans rfl; have hcz10_1 : w9.cell? ⟨gb195, 1, none⟩ = some (.int .i64 0) := (blk_cell BK195.out 1).trans rfl; have hfz10_0 := blk_frozen BK195.out 0; have hfz10_1 := blk_frozen BK195.out 1)))
                go_roundg k1
                case measure => have := HK1.out; omega
                case rel => exact ⟨(wrap64 (x7_1 + (wrap64 ((wrap64 (Int.tdiv t192 ((rd_T54 l0 x20_1).f0))) * ((rd_T54 l0 x20_1).f1))))), (wrap64 (x20_1 + 1)), (by first | rfl | (simp; done) | (simp [*]; done)), (by first | rfl | (simp; done) | (simp [*]; done)), H', ⟨by have := HK1.out; omega⟩, ⟨by repeat (first | (with_reducible first | exact HB.out | apply below_alloc | apply pw_below_drewN | apply below_drew1 | refine below_set ?_ GE195.out) | exact HB.out)⟩⟩
            · rw [if_neg c7] at H
              exact absurd H (by simp)
          · rw [if_neg c6] at H
            exact absurd H (by simp)
        · rw [if_neg c5] at H
          have c5b0 : decide (x20_1 < (l0.length : Int)) = false := decide_eq_false c5
          clear c5
          simp only [Option.some.injEq, Prod.mk.injEq] at H
          obtain ⟨rfl, rfl, rfl⟩ := H
          go_wp2
          repeat (go_quiet (fail); try go_wp2)
          go_ret3
          exact ⟨by first | rfl | (rw [HR_.out] <;> rfl) | (simp [errW_none, errW_some] <;> rfl) | (simp [*, errW_none, errW_some] <;> rfl), by repeat (first | (with_reducible first | exact HB.out | apply below_alloc | apply pw_below_drewN | apply below_drew1) | exact HB.out)⟩
  · rw [if_neg c3] at H
    have c3b0 : (t193 == 0) = false := beq_eq_false_iff_ne.mpr c3
    have c3b1 : (t193 != 0) = true := bne_iff_ne.mpr c3
    simp only [Option.some.injEq, Prod.mk.injEq] at H
    obtain ⟨rfl, rfl, rfl⟩ := H
    go_enter Try.func29, Try.ntmps29
    go_wp2_with (first | (go_at_call 28; (with_reducible refine (synth_Frame.calls k _ _ l0 t192 t193 _ ?side1 ?side2 A2.out).mono ?_); (case side1 => repeat (first | exact HR0.out | (with_reducible refine Kd.C_alloc ?_ _) | (with_reducible refine Kd.C_drewN ?_ _) | (with_reducible refine Kd.C_drew ?_))); (case side2 => exact HC0.out); rintro e w11 ⟨rfl, hb⟩; have n0_ := Aside0.mk (below_step (by repeat (first | (with_reducible first | exact HB.out | apply below_alloc | apply pw_below_drewN | apply below_drew1) | exact HB.out)) hb); clear HB; have HB := n0_; clear n0_; (try clear hb); (try clear hb2); (try clear hk); (try clear hi)))
    repeat (go_quiet (first | (go_at_call 28; (with_reducible refine (synth_Frame.calls k _ _ l0 t192 t193 _ ?side1 ?side2 A2.out).mono ?_); (case side1 => repeat (first | exact HR0.out | (with_reducible refine Kd.C_alloc ?_ _) | (with_reducible refine Kd.C_drewN ?_ _) | (with_reducible refine Kd.C_drew ?_))); (case side2 => exact HC0.out); rintro e w11 ⟨rfl, hb⟩; have n0_ := Aside0.mk (below_step (by repeat (first | (with_reducible first | exact HB.out | apply below_alloc | apply pw_below_drewN | apply below_drew1) | exact HB.out)) hb); clear HB; have HB := n0_; clear n0_; (try clear hb); (try clear hb2); (try clear hk); (try clear hi))); try go_wp2_with (first | (go_at_call 28; (with_reducible refine (synth_Frame.calls k _ _ l0 t192 t193 _ ?side1 ?side2 A2.out).mono ?_); (case side1 => repeat (first | exact HR0.out | (with_reducible refine Kd.C_alloc ?_ _) | (with_reducible refine Kd.C_drewN ?_ _) | (with_reducible refine Kd.C_drew ?_))); (case side2 => exact HC0.out); rintro e w11 ⟨rfl, hb⟩; have n0_ := Aside0.mk (below_step (by repeat (first | (with_reducible first | exact HB.out | apply below_alloc | apply pw_below_drewN | apply below_drew1) | exact HB.out)) hb); clear HB; have HB := n0_; clear n0_; (try clear hb); (try clear hb2); (try clear hk); (try clear hi))))
    go_ret3
    exact ⟨by first | rfl | (rw [HR_.out] <;> rfl) | (simp [errW_none, errW_some] <;> rfl) | (simp [*, errW_none, errW_some] <;> rfl), by repeat (first | (with_reducible first | exact HB.out | apply below_alloc | apply pw_below_drewN | apply below_drew1) | exact HB.out)⟩

/-! ### remontoirlaw12_SynthFrames: function 9 -/
def remontoirlaw12_SynthFrames.l0 : Nat → List (S54) → Int → Int → Int → Int → Int → Int → Int → Int → Option (Bool)
  | 0, _, _, _, _, _, _, _, _, _ => none
  | k + 1, x0, x3, x4, x5, x6, x7, x8, x10, x11 => if x11 < (x0.length : Int) then (if 0 ≤ x11 then (if ((rd_T54 x0 x11).f0) = 0 then (none) else (remontoirlaw12_SynthFrames.l0 k x0 x3 x4 x5 x6 x7 x8 (wrap64 (x10 + (wrap64 (((rd_T54 x0 x11).f1) * (wrap64 (Int.tdiv x8 ((rd_T54 x0 x11).f0))))))) (wrap64 (x11 + 1)))) else (none)) else (if x3 = x8 then (if x4 = 0 then (if x5 = x10 then (if x6 = x8 then (if x7 = 0 then ((remontoirlaw12_knows.f k).bind fun t207 => (some t207)) else (some false)) else (some false)) else (some false)) else (some false)) else (some false))
def remontoirlaw12_SynthFrames.f (k : Nat) (l0 : List (S54)) : Option (Bool) := if (l0.length : Int) > 20 then ((remontoirlaw12_knows.f k).bind fun t196 => (some t196)) else ((synth_Frame.f k l0).bind fun bt197 => ((synth_Share.f k l0).bind fun bt199 => ((remontoirref12_Frame.f k l0).bind fun bt202 => (if bt202.2 = 0 then (remontoirlaw12_SynthFrames.l0 k l0 bt197.1 bt197.2 bt199.1 bt199.2.1 bt199.2.2 bt202.1 0 0) else (if bt197.1 = 0 then (if bt197.2 = bt202.2 then (if bt199.1 = 0 then (if bt199.2.1 = 0 then (if bt199.2.2 = bt202.2 then ((remontoirlaw12_knows.f k).bind fun t204 => (some t204)) else (some false)) else (some false)) else (some false)) else (some false)) else (some false))))))
theorem remontoirlaw12_SynthFrames.mono_l : ∀ k, (∀ y0 y1 y2 y3 y4 y5 y6 y7 y8, LeO (remontoirlaw12_SynthFrames.l0 k y0 y1 y2 y3 y4 y5 y6 y7 y8) (remontoirlaw12_SynthFrames.l0 (k + 1) y0 y1 y2 y3 y4 y5 y6 y7 y8))
  | 0 => fun _ _ _ _ _ _ _ _ _ r h => by simp [remontoirlaw12_SynthFrames.l0] at h
  | k + 1 => by
    have ih0 := remontoirlaw12_SynthFrames.mono_l k
    · intro y0 y1 y2 y3 y4 y5 y6 y7 y8
      unfold remontoirlaw12_SynthFrames.l0
      repeat' first
      | (with_reducible exact ih0 _ _ _ _ _ _ _ _ _)
      | (with_reducible exact remontoirlaw12_knows.mono _)
      | (with_reducible exact remontoirref12_Frame.mono _ _)
      | (with_reducible exact synth_Frame.mono _ _)
      | (with_reducible exact synth_Share.mono _ _)
      | (with_reducible exact LeO.refl _)
      | (with_reducible exact LeO.none _)
      | (with_reducible refine LeO.ite ?_ ?_)
      | (with_reducible refine LeO.bind ?_ (fun _ => ?_))
      | exact ih0 _ _ _ _ _ _ _ _ _
      | exact remontoirlaw12_knows.mono _
      | exact remontoirref12_Frame.mono _ _
      | exact synth_Frame.mono _ _
      | exact synth_Share.mono _ _
      | exact LeO.none _
      | refine LeO.ite ?_ ?_
      | refine LeO.bind ?_ (fun _ => ?_)
theorem remontoirlaw12_SynthFrames.mono : ∀ a0 k, LeO (remontoirlaw12_SynthFrames.f k a0) (remontoirlaw12_SynthFrames.f (k + 1) a0) := by
  intro a0 k
  have ih0 := remontoirlaw12_SynthFrames.mono_l k
  unfold remontoirlaw12_SynthFrames.f
  repeat' first
      | (with_reducible exact ih0 _ _ _ _ _ _ _ _ _)
      | (with_reducible exact remontoirlaw12_knows.mono _)
      | (with_reducible exact remontoirref12_Frame.mono _ _)
      | (with_reducible exact synth_Frame.mono _ _)
      | (with_reducible exact synth_Share.mono _ _)
      | (with_reducible exact LeO.refl _)
      | (with_reducible exact LeO.none _)
      | (with_reducible refine LeO.ite ?_ ?_)
      | (with_reducible refine LeO.bind ?_ (fun _ => ?_))
      | exact ih0 _ _ _ _ _ _ _ _ _
      | exact remontoirlaw12_knows.mono _
      | exact remontoirref12_Frame.mono _ _
      | exact synth_Frame.mono _ _
      | exact synth_Share.mono _ _
      | exact LeO.none _
      | refine LeO.ite ?_ ?_
      | refine LeO.bind ?_ (fun _ => ?_)
set_option maxHeartbeats 8000000 in
set_option maxRecDepth 100000 in
theorem remontoirlaw12_SynthFrames.calls (k : Nat) (A0 : Option Addr) (c0 : Nat) (l0 : List (S54)) (w : World) (hr0 : Kd.C k54 w A0 l0.length l0) (hc0 : l0.length ≤ c0) (h : remontoirlaw12_SynthFrames.f k l0 = some true) :
    Calls Try.prog 9 #[.slice A0 l0.length c0] w fun e w' => e = .returned (.bool true) ∧ Below w.heap.size w w' := by
  have HR0 := Aside0.mk hr0
  have HC0 := Aside0.mk hc0
  clear hr0 hc0
  have HB := Aside0.mk (Below.refl w.heap.size w)
  have H : (if (l0.length : Int) > 20 then ((remontoirlaw12_knows.f k).bind fun t196 => (some t196)) else ((synth_Frame.f k l0).bind fun bt197 => ((synth_Share.f k l0).bind fun bt199 => ((remontoirref12_Frame.f k l0).bind fun bt202 => (if bt202.2 = 0 then (remontoirlaw12_SynthFrames.l0 k l0 bt197.1 bt197.2 bt199.1 bt199.2.1 bt199.2.2 bt202.1 0 0) else (if bt197.1 = 0 then (if bt197.2 = bt202.2 then (if bt199.1 = 0 then (if bt199.2.1 = 0 then (if bt199.2.2 = bt202.2 then ((remontoirlaw12_knows.f k).bind fun t204 => (some t204)) else (some false)) else (some false)) else (some false)) else (some false)) else (some false))))))) = some true := h
  clear h
  by_cases c2 : (l0.length : Int) > 20
  · rw [if_pos c2] at H
    have c2b0 : decide (20 < (l0.length : Int)) = true := decide_eq_true c2
    have c2b1 : decide (20 < l0.length) = true := decide_eq_true (by omega)
    clear c2
    replace H := Option.bind_eq_some_iff.mp H
    obtain ⟨t196, A30, H⟩ := H
    replace H : (some t196) = some true := H
    have A3 := Aside0.mk A30
    clear A30
    have HR_ := Aside0.mk (Option.some.inj H)
    clear H
    go_enter Try.func9, Try.ntmps9
    go_wp2_with (first | (go_at_call 25; (with_reducible refine (remontoirlaw12_knows.calls k  t196 _ A3.out).mono ?_); rintro e w4 ⟨rfl, hb⟩; have n0_ := Aside0.mk (below_step (by repeat (first | (with_reducible first | exact HB.out | apply below_alloc | apply pw_below_drewN | apply below_drew1) | exact HB.out)) hb); clear HB; have HB := n0_; clear n0_; (try clear hb); (try clear hb2); (try clear hk); (try clear hi)))
    repeat (go_quiet (first | (go_at_call 25; (with_reducible refine (remontoirlaw12_knows.calls k  t196 _ A3.out).mono ?_); rintro e w4 ⟨rfl, hb⟩; have n0_ := Aside0.mk (below_step (by repeat (first | (with_reducible first | exact HB.out | apply below_alloc | apply pw_below_drewN | apply below_drew1) | exact HB.out)) hb); clear HB; have HB := n0_; clear n0_; (try clear hb); (try clear hb2); (try clear hk); (try clear hi))); try go_wp2_with (first | (go_at_call 25; (with_reducible refine (remontoirlaw12_knows.calls k  t196 _ A3.out).mono ?_); rintro e w4 ⟨rfl, hb⟩; have n0_ := Aside0.mk (below_step (by repeat (first | (with_reducible first | exact HB.out | apply below_alloc | apply pw_below_drewN | apply below_drew1) | exact HB.out)) hb); clear HB; have HB := n0_; clear n0_; (try clear hb); (try clear hb2); (try clear hk); (try clear hi))))
    go_ret
    exact ⟨by first | rfl | (rw [HR_.out] <;> rfl) | (simp [errW_none, errW_some] <;> rfl) | (simp [*, errW_none, errW_some] <;> rfl), by repeat (first | (with_reducible first | exact HB.out | apply below_alloc | apply pw_below_drewN | apply below_drew1) | exact HB.out)⟩
  · rw [if_neg c2] at H
    have c2b0 : decide (20 < (l0.length : Int)) = false := decide_eq_false c2
    have c2b1 : decide (20 < l0.length) = false := decide_eq_false (by omega)
    clear c2
    replace H := Option.bind_eq_some_iff.mp H
    obtain ⟨⟨t197, t198⟩, A50, H⟩ := H
    replace H : ((synth_Share.f k l0).bind fun bt199 => ((remontoirref12_Frame.f k l0).bind fun bt202 => (if bt202.2 = 0 then (remontoirlaw12_SynthFrames.l0 k l0 t197 t198 bt199.1 bt199.2.1 bt199.2.2 bt202.1 0 0) else (if t197 = 0 then (if t198 = bt202.2 then (if bt199.1 = 0 then (if bt199.2.1 = 0 then (if bt199.2.2 = bt202.2 then ((remontoirlaw12_knows.f k).bind fun t204 => (some t204)) else (some false)) else (some false)) else (some false)) else (some false)) else (some false))))) = some true := H
    have A5 := Aside0.mk A50
    clear A50
    replace H := Option.bind_eq_some_iff.mp H
    obtain ⟨⟨t199, t200, t201⟩, A60, H⟩ := H
    replace H : ((remontoirref12_Frame.f k l0).bind fun bt202 => (if bt202.2 = 0 then (remontoirlaw12_SynthFrames.l0 k l0 t197 t198 t199 t200 t201 bt202.1 0 0) else (if t197 = 0 then (if t198 = bt202.2 then (if t199 = 0 then (if t200 = 0 then (if t201 = bt202.2 then ((remontoirlaw12_knows.f k).bind fun t204 => (some t204)) else (some false)) else (some false)) else (some false)) else (some false)) else (some false)))) = some true := H
    have A6 := Aside0.mk A60
    clear A60
    replace H := Option.bind_eq_some_iff.mp H
    obtain ⟨⟨t202, t203⟩, A70, H⟩ := H
    replace H : (if t203 = 0 then (remontoirlaw12_SynthFrames.l0 k l0 t197 t198 t199 t200 t201 t202 0 0) else (if t197 = 0 then (if t198 = t203 then (if t199 = 0 then (if t200 = 0 then (if t201 = t203 then ((remontoirlaw12_knows.f k).bind fun t204 => (some t204)) else (some false)) else (some false)) else (some false)) else (some false)) else (some false))) = some true := H
    have A7 := Aside0.mk A70
    clear A70
    by_cases c8 : t203 = 0
    · rw [if_pos c8] at H
      have c8b0 : (t203 == 0) = true := beq_iff_eq.mpr c8
      have c8b1 : (t203 != 0) = false := bne_eq_false_iff_eq.mpr c8
      clear c8
      have H' := Aside0.mk H
      clear H
      go_enter Try.func9, Try.ntmps9
      go_wp2_with (first | (go_at_call 28; (with_reducible refine (synth_Frame.calls k _ _ l0 t197 t198 _ ?side1 ?side2 A5.out).mono ?_); (case side1 => repeat (first | exact HR0.out | (with_reducible refine Kd.C_alloc ?_ _) | (with_reducible refine Kd.C_drewN ?_ _) | (with_reducible refine Kd.C_drew ?_))); (case side2 => exact HC0.out); rintro e w9 ⟨rfl, hb⟩; have n0_ := Aside0.mk (below_step (by repeat (first | (with_reducible first | exact HB.out | apply below_alloc | apply pw_below_drewN | apply below_drew1) | exact HB.out)) hb); clear HB; have HB := n0_; clear n0_; (try clear hb); (try clear hb2); (try clear hk); (try clear hi)) | (go_at_call 29; (with_reducible refine (synth_Share.calls k _ _ l0 t199 t200 t201 _ ?side1 ?side2 A6.out).mono ?_); (case side1 => repeat (first | exact (Kd.C_below HR0.out HB.out) | (with_reducible refine Kd.C_alloc ?_ _) | (with_reducible refine Kd.C_drewN ?_ _) | (with_reducible refine Kd.C_drew ?_))); (case side2 => exact HC0.out); rintro e w10 ⟨rfl, hb⟩; have n0_ := Aside0.mk (below_step (by repeat (first | (with_reducible first | exact HB.out | apply below_alloc | apply pw_below_drewN | apply below_drew1) | exact HB.out)) hb); clear HB; have HB := n0_; clear n0_; (try clear hb); (try clear hb2); (try clear hk); (try clear hi)) | (go_at_call 30; (with_reducible refine (remontoirref12_Frame.calls k _ _ l0 t202 t203 _ ?side1 ?side2 A7.out).mono ?_); (case side1 => repeat (first | exact (Kd.C_below HR0.out HB.out) | (with_reducible refine Kd.C_alloc ?_ _) | (with_reducible refine Kd.C_drewN ?_ _) | (with_reducible refine Kd.C_drew ?_))); (case side2 => exact HC0.out); rintro e w11 ⟨rfl, hb⟩; have n0_ := Aside0.mk (below_step (by repeat (first | (with_reducible first | exact HB.out | apply below_alloc | apply pw_below_drewN | apply below_drew1) | exact HB.out)) hb); clear HB; have HB := n0_; clear n0_; (try clear hb); (try clear hb2); (try clear hk); (try clear hi)))
      repeat (go_quiet (first | (go_at_call 28; (with_reducible refine (synth_Frame.calls k _ _ l0 t197 t198 _ ?side1 ?side2 A5.out).mono ?_); (case side1 => repeat (first | exact HR0.out | (with_reducible refine Kd.C_alloc ?_ _) | (with_reducible refine Kd.C_drewN ?_ _) | (with_reducible refine Kd.C_drew ?_))); (case side2 => exact HC0.out); rintro e w9 ⟨rfl, hb⟩; have n0_ := Aside0.mk (below_step (by repeat (first | (with_reducible first | exact HB.out | apply below_alloc | apply pw_below_drewN | apply below_drew1) | exact HB.out)) hb); clear HB; have HB := n0_; clear n0_; (try clear hb); (try clear hb2); (try clear hk); (try clear hi)) | (go_at_call 29; (with_reducible refine (synth_Share.calls k _ _ l0 t199 t200 t201 _ ?side1 ?side2 A6.out).mono ?_); (case side1 => repeat (first | exact (Kd.C_below HR0.out HB.out) | (with_reducible refine Kd.C_alloc ?_ _) | (with_reducible refine Kd.C_drewN ?_ _) | (with_reducible refine Kd.C_drew ?_))); (case side2 => exact HC0.out); rintro e w10 ⟨rfl, hb⟩; have n0_ := Aside0.mk (below_step (by repeat (first | (with_reducible first | exact HB.out | apply below_alloc | apply pw_below_drewN | apply below_drew1) | exact HB.out)) hb); clear HB; have HB := n0_; clear n0_; (try clear hb); (try clear hb2); (try clear hk); (try clear hi)) | (go_at_call 30; (with_reducible refine (remontoirref12_Frame.calls k _ _ l0 t202 t203 _ ?side1 ?side2 A7.out).mono ?_); (case side1 => repeat (first | exact (Kd.C_below HR0.out HB.out) | (with_reducible refine Kd.C_alloc ?_ _) | (with_reducible refine Kd.C_drewN ?_ _) | (with_reducible refine Kd.C_drew ?_))); (case side2 => exact HC0.out); rintro e w11 ⟨rfl, hb⟩; have n0_ := Aside0.mk (below_step (by repeat (first | (with_reducible first | exact HB.out | apply below_alloc | apply pw_below_drewN | apply below_drew1) | exact HB.out)) hb); clear HB; have HB := n0_; clear n0_; (try clear hb); (try clear hb2); (try clear hk); (try clear hi))); try go_wp2_with (first | (go_at_call 28; (with_reducible refine (synth_Frame.calls k _ _ l0 t197 t198 _ ?side1 ?side2 A5.out).mono ?_); (case side1 => repeat (first | exact HR0.out | (with_reducible refine Kd.C_alloc ?_ _) | (with_reducible refine Kd.C_drewN ?_ _) | (with_reducible refine Kd.C_drew ?_))); (case side2 => exact HC0.out); rintro e w9 ⟨rfl, hb⟩; have n0_ := Aside0.mk (below_step (by repeat (first | (with_reducible first | exact HB.out | apply below_alloc | apply pw_below_drewN | apply below_drew1) | exact HB.out)) hb); clear HB; have HB := n0_; clear n0_; (try clear hb); (try clear hb2); (try clear hk); (try clear hi)) | (go_at_call 29; (with_reducible refine (synth_Share.calls k _ _ l0 t199 t200 t201 _ ?side1 ?side2 A6.out).mono ?_); (case side1 => repeat (first | exact (Kd.C_below HR0.out HB.out) | (with_reducible refine Kd.C_alloc ?_ _) | (with_reducible refine Kd.C_drewN ?_ _) | (with_reducible refine Kd.C_drew ?_))); (case side2 => exact HC0.out); rintro e w10 ⟨rfl, hb⟩; have n0_ := Aside0.mk (below_step (by repeat (first | (with_reducible first | exact HB.out | apply below_alloc | apply pw_below_drewN | apply below_drew1) | exact HB.out)) hb); clear HB; have HB := n0_; clear n0_; (try clear hb); (try clear hb2); (try clear hk); (try clear hi)) | (go_at_call 30; (with_reducible refine (remontoirref12_Frame.calls k _ _ l0 t202 t203 _ ?side1 ?side2 A7.out).mono ?_); (case side1 => repeat (first | exact (Kd.C_below HR0.out HB.out) | (with_reducible refine Kd.C_alloc ?_ _) | (with_reducible refine Kd.C_drewN ?_ _) | (with_reducible refine Kd.C_drew ?_))); (case side2 => exact HC0.out); rintro e w11 ⟨rfl, hb⟩; have n0_ := Aside0.mk (below_step (by repeat (first | (with_reducible first | exact HB.out | apply below_alloc | apply pw_below_drewN | apply below_drew1) | exact HB.out)) hb); clear HB; have HB := n0_; clear n0_; (try clear hb); (try clear hb2); (try clear hk); (try clear hi))))
      go_loopg [10, 11] k (fun kq v10 v11 w' => ∃ (x10_1 : Int) (x11_1 : Int), v10 = .int .i64 x10_1 ∧ v11 = .int .i64 x11_1 ∧ Aside0 (remontoirlaw12_SynthFrames.l0 kq l0 t197 t198 t199 t200 t201 t202 x10_1 x11_1 = some true) ∧ Aside0 (kq ≤ k) ∧ Aside0 (Below w.heap.size w w'))
      case atStart => exact ⟨(0), (0), (by first | rfl | (simp; done) | (simp [*]; done)), (by first | rfl | (simp; done) | (simp [*]; done)), H', ⟨Nat.le_refl _⟩, ⟨by repeat (first | (with_reducible first | exact HB.out | apply below_alloc | apply pw_below_drewN | apply below_drew1) | exact HB.out)⟩⟩
      case round =>
        clear H'
        try clear c2
        try clear c2b0
        try clear c2b1
        try clear p2
        try clear c8
        try clear c8b0
        try clear c8b1
        try clear c9
        obtain ⟨x10_1, x11_1, rfl, rfl, HA, HK1, HB⟩ := hrel
        cases gk with
        | zero => exact absurd HA.out (by simp [remontoirlaw12_SynthFrames.l0])
        | succ k1 =>
          have H := HA.out
          clear HA
          simp only [remontoirlaw12_SynthFrames.l0] at H
          by_cases c12 : x11_1 < (l0.length : Int)
          · rw [if_pos c12] at H
            have c12b0 : decide (x11_1 < (l0.length : Int)) = true := decide_eq_true c12
            clear c12
            by_cases c13 : 0 ≤ x11_1
            · rw [if_pos c13] at H
              have c13b0 : decide (0 ≤ x11_1) = true := decide_eq_true c13
              clear c13
              by_cases c14 : ((rd_T54 l0 x11_1).f0) = 0
              · rw [if_pos c14] at H
                exact absurd H (by simp)
              · rw [if_neg c14] at H
                have c14b0 : (((rd_T54 l0 x11_1).f0) == 0) = false := beq_eq_false_iff_ne.mpr c14
                have c14b1 : (((rd_T54 l0 x11_1).f0) != 0) = true := bne_iff_ne.mpr c14
                have H' := Aside0.mk H
                clear H
                have p205 : 0 ≤ (x11_1 : Int) := of_decide_eq_true (by first | (with_reducible assumption) | assumption)
                have q205 : x11_1 < (l0.length : Int) := of_decide_eq_true (by first | (with_reducible assumption) | assumption)
                obtain ⟨ad205, e205, hx205_0, hx205_1⟩ := at_T54 HR0.out x11_1 p205 q205
                cases e205
                replace hx205_0 := (HB.out.cell (World.block_lt_of_cell? w _ hx205_0)).trans hx205_0
                replace hx205_1 := (HB.out.cell (World.block_lt_of_cell? w _ hx205_1)).trans hx205_1
                replace p205 := eq_true p205
                replace q205 := eq_true q205
                have p206 : 0 ≤ (x11_1 : Int) := of_decide_eq_true (by first | (with_reducible assumption) | assumption)
                have q206 : x11_1 < (l0.length : Int) := of_decide_eq_true (by first | (with_reducible assumption) | assumption)
                obtain ⟨ad206, e206, hx206_0, hx206_1⟩ := at_T54 HR0.out x11_1 p206 q206
                obtain rfl : ad205 = ad206 := (by injection e206)
                replace hx206_0 := (HB.out.cell (World.block_lt_of_cell? w _ hx206_0)).trans hx206_0
                replace hx206_1 := (HB.out.cell (World.block_lt_of_cell? w _ hx206_1)).trans hx206_1
                replace p206 := eq_true p206
                replace q206 := eq_true q206
                go_wp2
                repeat (go_quiet (fail); try go_wp2)
                go_roundg k1
                case measure => have := HK1.out; omega
                case rel => exact ⟨(wrap64 (x10_1 + (wrap64 (((rd_T54 l0 x11_1).f1) * (wrap64 (Int.tdiv t202 ((rd_T54 l0 x11_1).f0))))))), (wrap64 (x11_1 + 1)), (by first | rfl | (simp; done) | (simp [*]; done)), (by first | rfl | (simp; done) | (simp [*]; done)), H', ⟨by have := HK1.out; omega⟩, ⟨by repeat (first | (with_reducible first | exact HB.out | apply below_alloc | apply pw_below_drewN | apply below_drew1) | exact HB.out)⟩⟩
            · rw [if_neg c13] at H
              exact absurd H (by simp)
          · rw [if_neg c12] at H
            have c12b0 : decide (x11_1 < (l0.length : Int)) = false := decide_eq_false c12
            clear c12
            by_cases c15 : t197 = t202
            · rw [if_pos c15] at H
              have c15b0 : (t197 == t202) = true := beq_iff_eq.mpr c15
              have c15b1 : (t197 != t202) = false := bne_eq_false_iff_eq.mpr c15
              clear c15
              by_cases c16 : t198 = 0
              · rw [if_pos c16] at H
                have c16b0 : (t198 == 0) = true := beq_iff_eq.mpr c16
                have c16b1 : (t198 != 0) = false := bne_eq_false_iff_eq.mpr c16
                clear c16
                by_cases c17 : t199 = x10_1
                · rw [if_pos c17] at H
                  have c17b0 : (t199 == x10_1) = true := beq_iff_eq.mpr c17
                  have c17b1 : (t199 != x10_1) = false := bne_eq_false_iff_eq.mpr c17
                  clear c17
                  by_cases c18 : t200 = t202
                  · rw [if_pos c18] at H
                    have c18b0 : (t200 == t202) = true := beq_iff_eq.mpr c18
                    have c18b1 : (t200 != t202) = false := bne_eq_false_iff_eq.mpr c18
                    clear c18
                    by_cases c19 : t201 = 0
                    · rw [if_pos c19] at H
                      have c19b0 : (t201 == 0) = true := beq_iff_eq.mpr c19
                      have c19b1 : (t201 != 0) = false := bne_eq_false_iff_eq.mpr c19
                      clear c19
                      replace H := Option.bind_eq_some_iff.mp H
                      obtain ⟨t207, A200, H⟩ := H
                      replace H : (some t207) = some true := H
                      have A20 := Aside0.mk A200
                      clear A200
                      have HR_ := Aside0.mk (Option.some.inj H)
                      clear H
                      go_wp2_with (first | (go_at_call 25; (with_reducible refine (remontoirlaw12_knows.calls k1  t207 _ A20.out).mono ?_); rintro e w21 ⟨rfl, hb⟩; have n0_ := Aside0.mk (below_step (by repeat (first | (with_reducible first | exact HB.out | apply below_alloc | apply pw_below_drewN | apply below_drew1) | exact HB.out)) hb); clear HB; have HB := n0_; clear n0_; (try clear hb); (try clear hb2); (try clear hk); (try clear hi)))
                      repeat (go_quiet (first | (go_at_call 25; (with_reducible refine (remontoirlaw12_knows.calls k1  t207 _ A20.out).mono ?_); rintro e w21 ⟨rfl, hb⟩; have n0_ := Aside0.mk (below_step (by repeat (first | (with_reducible first | exact HB.out | apply below_alloc | apply pw_below_drewN | apply below_drew1) | exact HB.out)) hb); clear HB; have HB := n0_; clear n0_; (try clear hb); (try clear hb2); (try clear hk); (try clear hi))); try go_wp2_with (first | (go_at_call 25; (with_reducible refine (remontoirlaw12_knows.calls k1  t207 _ A20.out).mono ?_); rintro e w21 ⟨rfl, hb⟩; have n0_ := Aside0.mk (below_step (by repeat (first | (with_reducible first | exact HB.out | apply below_alloc | apply pw_below_drewN | apply below_drew1) | exact HB.out)) hb); clear HB; have HB := n0_; clear n0_; (try clear hb); (try clear hb2); (try clear hk); (try clear hi))))
                      go_ret
                      exact ⟨by first | rfl | (rw [HR_.out] <;> rfl) | (simp [errW_none, errW_some] <;> rfl) | (simp [*, errW_none, errW_some] <;> rfl), by repeat (first | (with_reducible first | exact HB.out | apply below_alloc | apply pw_below_drewN | apply below_drew1) | exact HB.out)⟩
                    · rw [if_neg c19] at H
                      have c19b0 : (t201 == 0) = false := beq_eq_false_iff_ne.mpr c19
                      have c19b1 : (t201 != 0) = true := bne_iff_ne.mpr c19
                      exact absurd H (by simp)
                  · rw [if_neg c18] at H
                    have c18b0 : (t200 == t202) = false := beq_eq_false_iff_ne.mpr c18
                    have c18b1 : (t200 != t202) = true := bne_iff_ne.mpr c18
                    exact absurd H (by simp)
                · rw [if_neg c17] at H
                  have c17b0 : (t199 == x10_1) = false := beq_eq_false_iff_ne.mpr c17
                  have c17b1 : (t199 != x10_1) = true := bne_iff_ne.mpr c17
                  exact absurd H (by simp)
              · rw [if_neg c16] at H
                have c16b0 : (t198 == 0) = false := beq_eq_false_iff_ne.mpr c16
                have c16b1 : (t198 != 0) = true := bne_iff_ne.mpr c16
                exact absurd H (by simp)
            · rw [if_neg c15] at H
              have c15b0 : (t197 == t202) = false := beq_eq_false_iff_ne.mpr c15
              have c15b1 : (t197 != t202) = true := bne_iff_ne.mpr c15
              exact absurd H (by simp)
    · rw [if_neg c8] at H
      have c8b0 : (t203 == 0) = false := beq_eq_false_iff_ne.mpr c8
      have c8b1 : (t203 != 0) = true := bne_iff_ne.mpr c8
      by_cases c22 : t197 = 0
      · rw [if_pos c22] at H
        have c22b0 : (t197 == 0) = true := beq_iff_eq.mpr c22
        have c22b1 : (t197 != 0) = false := bne_eq_false_iff_eq.mpr c22
        clear c22
        by_cases c23 : t198 = t203
        · rw [if_pos c23] at H
          have c23b0 : (t198 == t203) = true := beq_iff_eq.mpr c23
          have c23b1 : (t198 != t203) = false := bne_eq_false_iff_eq.mpr c23
          clear c23
          by_cases c24 : t199 = 0
          · rw [if_pos c24] at H
            have c24b0 : (t199 == 0) = true := beq_iff_eq.mpr c24
            have c24b1 : (t199 != 0) = false := bne_eq_false_iff_eq.mpr c24
            clear c24
            by_cases c25 : t200 = 0
            · rw [if_pos c25] at H
              have c25b0 : (t200 == 0) = true := beq_iff_eq.mpr c25
              have c25b1 : (t200 != 0) = false := bne_eq_false_iff_eq.mpr c25
              clear c25
              by_cases c26 : t201 = t203
              · rw [if_pos c26] at H
                have c26b0 : (t201 == t203) = true := beq_iff_eq.mpr c26
                have c26b1 : (t201 != t203) = false := bne_eq_false_iff_eq.mpr c26
                clear c26
                replace H := Option.bind_eq_some_iff.mp H
                obtain ⟨t204, A270, H⟩ := H
                replace H : (some t204) = some true := H
                have A27 := Aside0.mk A270
                clear A270
                have HR_ := Aside0.mk (Option.some.inj H)
                clear H
                go_enter Try.func9, Try.ntmps9
                go_wp2_with (first | (go_at_call 28; (with_reducible refine (synth_Frame.calls k _ _ l0 t197 t198 _ ?side1 ?side2 A5.out).mono ?_); (case side1 => repeat (first | exact HR0.out | (with_reducible refine Kd.C_alloc ?_ _) | (with_reducible refine Kd.C_drewN ?_ _) | (with_reducible refine Kd.C_drew ?_))); (case side2 => exact HC0.out); rintro e w28 ⟨rfl, hb⟩; have n0_ := Aside0.mk (below_step (by repeat (first | (with_reducible first | exact HB.out | apply below_alloc | apply pw_below_drewN | apply below_drew1) | exact HB.out)) hb); clear HB; have HB := n0_; clear n0_; (try clear hb); (try clear hb2); (try clear hk); (try clear hi)) | (go_at_call 29; (with_reducible refine (synth_Share.calls k _ _ l0 t199 t200 t201 _ ?side1 ?side2 A6.out).mono ?_); (case side1 => repeat (first | exact (Kd.C_below HR0.out HB.out) | (with_reducible refine Kd.C_alloc ?_ _) | (with_reducible refine Kd.C_drewN ?_ _) | (with_reducible refine Kd.C_drew ?_))); (case side2 => exact HC0.out); rintro e w29 ⟨rfl, hb⟩; have n0_ := Aside0.mk (below_step (by repeat (first | (with_reducible first | exact HB.out | apply below_alloc | apply pw_below_drewN | apply below_drew1) | exact HB.out)) hb); clear HB; have HB := n0_; clear n0_; (try clear hb); (try clear hb2); (try clear hk); (try clear hi)) | (go_at_call 30; (with_reducible refine (remontoirref12_Frame.calls k _ _ l0 t202 t203 _ ?side1 ?side2 A7.out).mono ?_); (case side1 => repeat (first | exact (Kd.C_below HR0.out HB.out) | (with_reducible refine Kd.C_alloc ?_ _) | (with_reducible refine Kd.C_drewN ?_ _) | (with_reducible refine Kd.C_drew ?_))); (case side2 => exact HC0.out); rintro e w30 ⟨rfl, hb⟩; have n0_ := Aside0.mk (below_step (by repeat (first | (with_reducible first | exact HB.out | apply below_alloc | apply pw_below_drewN | apply below_drew1) | exact HB.out)) hb); clear HB; have HB := n0_; clear n0_; (try clear hb); (try clear hb2); (try clear hk); (try clear hi)) | (go_at_call 25; (with_reducible refine (remontoirlaw12_knows.calls k  t204 _ A27.out).mono ?_); rintro e w31 ⟨rfl, hb⟩; have n0_ := Aside0.mk (below_step (by repeat (first | (with_reducible first | exact HB.out | apply below_alloc | apply pw_below_drewN | apply below_drew1) | exact HB.out)) hb); clear HB; have HB := n0_; clear n0_; (try clear hb); (try clear hb2); (try clear hk); (try clear hi)))
                repeat (go_quiet (first | (go_at_call 28; (with_reducible refine (synth_Frame.calls k _ _ l0 t197 t198 _ ?side1 ?side2 A5.out).mono ?_); (case side1 => repeat (first | exact HR0.out | (with_reducible refine Kd.C_alloc ?_ _) | (with_reducible refine Kd.C_drewN ?_ _) | (with_reducible refine Kd.C_drew ?_))); (case side2 => exact HC0.out); rintro e w28 ⟨rfl, hb⟩; have n0_ := Aside0.mk (below_step (by repeat (first | (with_reducible first | exact HB.out | apply below_alloc | apply pw_below_drewN | apply below_drew1) | exact HB.out)) hb); clear HB; have HB := n0_; clear n0_; (try clear hb); (try clear hb2); (try clear hk); (try clear hi)) | (go_at_call 29; (with_reducible refine (synth_Share.calls k _ _ l0 t199 t200 t201 _ ?side1 ?side2 A6.out).mono ?_); (case side1 => repeat (first | exact (Kd.C_below HR0.out HB.out) | (with_reducible refine Kd.C_alloc ?_ _) | (with_reducible refine Kd.C_drewN ?_ _) | (with_reducible refine Kd.C_drew ?_))); (case side2 => exact HC0.out); rintro e w29 ⟨rfl, hb⟩; have n0_ := Aside0.mk (below_step (by repeat (first | (with_reducible first | exact HB.out | apply below_alloc | apply pw_below_drewN | apply below_drew1) | exact HB.out)) hb); clear HB; have HB := n0_; clear n0_; (try clear hb); (try clear hb2); (try clear hk); (try clear hi)) | (go_at_call 30; (with_reducible refine (remontoirref12_Frame.calls k _ _ l0 t202 t203 _ ?side1 ?side2 A7.out).mono ?_); (case side1 => repeat (first | exact (Kd.C_below HR0.out HB.out) | (with_reducible refine Kd.C_alloc ?_ _) | (with_reducible refine Kd.C_drewN ?_ _) | (with_reducible refine Kd.C_drew ?_))); (case side2 => exact HC0.out); rintro e w30 ⟨rfl, hb⟩; have n0_ := Aside0.mk (below_step (by repeat (first | (with_reducible first | exact HB.out | apply below_alloc | apply pw_below_drewN | apply below_drew1) | exact HB.out)) hb); clear HB; have HB := n0_; clear n0_; (try clear hb); (try clear hb2); (try clear hk); (try clear hi)) | (go_at_call 25; (with_reducible refine (remontoirlaw12_knows.calls k  t204 _ A27.out).mono ?_); rintro e w31 ⟨rfl, hb⟩; have n0_ := Aside0.mk (below_step (by repeat (first | (with_reducible first | exact HB.out | apply below_alloc | apply pw_below_drewN | apply below_drew1) | exact HB.out)) hb); clear HB; have HB := n0_; clear n0_; (try clear hb); (try clear hb2); (try clear hk); (try clear hi))); try go_wp2_with (first | (go_at_call 28; (with_reducible refine (synth_Frame.calls k _ _ l0 t197 t198 _ ?side1 ?side2 A5.out).mono ?_); (case side1 => repeat (first | exact HR0.out | (with_reducible refine Kd.C_alloc ?_ _) | (with_reducible refine Kd.C_drewN ?_ _) | (with_reducible refine Kd.C_drew ?_))); (case side2 => exact HC0.out); rintro e w28 ⟨rfl, hb⟩; have n0_ := Aside0.mk (below_step (by repeat (first | (with_reducible first | exact HB.out | apply below_alloc | apply pw_below_drewN | apply below_drew1) | exact HB.out)) hb); clear HB; have HB := n0_; clear n0_; (try clear hb); (try clear hb2); (try clear hk); (try clear hi)) | (go_at_call 29; (with_reducible refine (synth_Share.calls k _ _ l0 t199 t200 t201 _ ?side1 ?side2 A6.out).mono ?_); (case side1 => repeat (first | exact (Kd.C_below HR0.out HB.out) | (with_reducible refine Kd.C_alloc ?_ _) | (with_reducible refine Kd.C_drewN ?_ _) | (with_reducible refine Kd.C_drew ?_))); (case side2 => exact HC0.out); rintro e w29 ⟨rfl, hb⟩; have n0_ := Aside0.mk (below_step (by repeat (first | (with_reducible first | exact HB.out | apply below_alloc | apply pw_below_drewN | apply below_drew1) | exact HB.out)) hb); clear HB; have HB := n0_; clear n0_; (try clear hb); (try clear hb2); (try clear hk); (try clear hi)) | (go_at_call 30; (with_reducible refine (remontoirref12_Frame.calls k _ _ l0 t202 t203 _ ?side1 ?side2 A7.out).mono ?_); (case side1 => repeat (first | exact (Kd.C_below HR0.out HB.out) | (with_reducible refine Kd.C_alloc ?_ _) | (with_reducible refine Kd.C_drewN ?_ _) | (with_reducible refine Kd.C_drew ?_))); (case side2 => exact HC0.out); rintro e w30 ⟨rfl, hb⟩; have n0_ := Aside0.mk (below_step (by repeat (first | (with_reducible first | exact HB.out | apply below_alloc | apply pw_below_drewN | apply below_drew1) | exact HB.out)) hb); clear HB; have HB := n0_; clear n0_; (try clear hb); (try clear hb2); (try clear hk); (try clear hi)) | (go_at_call 25; (with_reducible refine (remontoirlaw12_knows.calls k  t204 _ A27.out).mono ?_); rintro e w31 ⟨rfl, hb⟩; have n0_ := Aside0.mk (below_step (by repeat (first | (with_reducible first | exact HB.out | apply below_alloc | apply pw_below_drewN | apply below_drew1) | exact HB.out)) hb); clear HB; have HB := n0_; clear n0_; (try clear hb); (try clear hb2); (try clear hk); (try clear hi))))
                go_ret
                exact ⟨by first | rfl | (rw [HR_.out] <;> rfl) | (simp [errW_none, errW_some] <;> rfl) | (simp [*, errW_none, errW_some] <;> rfl), by repeat (first | (with_reducible first | exact HB.out | apply below_alloc | apply pw_below_drewN | apply below_drew1) | exact HB.out)⟩
              · rw [if_neg c26] at H
                have c26b0 : (t201 == t203) = false := beq_eq_false_iff_ne.mpr c26
                have c26b1 : (t201 != t203) = true := bne_iff_ne.mpr c26
                exact absurd H (by simp)
            · rw [if_neg c25] at H
              have c25b0 : (t200 == 0) = false := beq_eq_false_iff_ne.mpr c25
              have c25b1 : (t200 != 0) = true := bne_iff_ne.mpr c25
              exact absurd H (by simp)
          · rw [if_neg c24] at H
            have c24b0 : (t199 == 0) = false := beq_eq_false_iff_ne.mpr c24
            have c24b1 : (t199 != 0) = true := bne_iff_ne.mpr c24
            exact absurd H (by simp)
        · rw [if_neg c23] at H
          have c23b0 : (t198 == t203) = false := beq_eq_false_iff_ne.mpr c23
          have c23b1 : (t198 != t203) = true := bne_iff_ne.mpr c23
          exact absurd H (by simp)
      · rw [if_neg c22] at H
        have c22b0 : (t197 == 0) = false := beq_eq_false_iff_ne.mpr c22
        have c22b1 : (t197 != 0) = true := bne_iff_ne.mpr c22
        exact absurd H (by simp)

/-- The statement of remontoirlaw12_SynthFrames over plain data. -/
def remontoirlaw12_SynthFrames.Pure : Prop := ∀ (l0 : List (S54)), (l0.length ≤ 9223372036854775807 ∧ ∀ x ∈ l0, ((Lit.int .i64 x.f0).wf = true ∧ (Lit.int .i64 x.f1).wf = true)) → ∃ k, remontoirlaw12_SynthFrames.f k l0 = some true

end Go.Proofs.Ytkfkghnmbemdiaa.FSynth
