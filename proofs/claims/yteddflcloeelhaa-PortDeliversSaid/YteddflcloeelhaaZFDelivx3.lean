-- Written by the session (wip/tools) for this claim: functions of the program as Lean functions, and their contracts.
import Derived.Test.YteddflcloeelhaaZXShort
import Derived.Test.YteddflcloeelhaaZFDelivx0
import Derived.Test.YteddflcloeelhaaZFDelivx2
namespace Go.Proofs.Yteddflcloeelhaa.FDeliv
open Go.RowKit Go.Proofs.YteddflcloeelhaaW.PrintWords Go.Proofs.YteddflcloeelhaaW.PrintLast Go.Proofs.YteddflcloeelhaaW.PrintMore
attribute [local go_sem] max2_int min2_int max_two min_two max_three min_three max_four min_four   -- for this text's walks alone
set_option linter.unusedVariables false
set_option linter.unusedSimpArgs false

/-! ### port_Right: function 31 -/
def port_Right.l0 : Nat → List (S76) → List (S76) → Int → Int → Option (Bool)
  | 0, _, _, _, _ => none
  | k + 1, x0, x5, x6, x7 => if x7 < x6 then (if 0 ≤ x7 then (if x7 < (x5.length : Int) then ((port_may.f ((rd_T76 x5 x7).f0.f0) ((rd_T76 x5 x7).f0.f1) ((rd_T76 x5 x7).f0.f2)).bind fun t147 => (if t147 = true then ((ring_Right.f ((rd_T76 x5 x7).f1.f0) ((rd_T76 x5 x7).f1.f1) ((rd_T76 x5 x7).f1.f2)).bind fun t148 => (if t148 = true then ((ring_Right.f ((rd_T76 x5 x7).f2.f0) ((rd_T76 x5 x7).f2.f1) ((rd_T76 x5 x7).f2.f2)).bind fun t149 => (if t149 = true then (if (((rd_T76 x5 x7).f1.f0).length : Int) = ((rd_T76 x5 x7).f0.f2) then (if (((rd_T76 x5 x7).f2.f0).length : Int) = ((rd_T76 x5 x7).f0.f2) then (port_Right.l0 k x0 x5 x6 (wrap64 (x7 + 1))) else (some false)) else (some false)) else (some false))) else (some false))) else (some false))) else (none)) else (none)) else (some (decide ((x0.length : Int) ≤ 4)))
def port_Right.f (k : Nat) (l0 : List (S76)) : Option (Bool) := port_Right.l0 k l0 l0 (l0.length : Int) 0
theorem port_Right.mono_l : ∀ k, (∀ y0 y1 y2 y3, LeO (port_Right.l0 k y0 y1 y2 y3) (port_Right.l0 (k + 1) y0 y1 y2 y3))
  | 0 => fun _ _ _ _ r h => by simp [port_Right.l0] at h
  | k + 1 => by
    have ih0 := port_Right.mono_l k
    · intro y0 y1 y2 y3
      unfold port_Right.l0
      repeat' first | (with_reducible exact ih0 _ _ _ _) | (with_reducible exact LeO.refl _) | (with_reducible refine LeO.ite ?_ ?_) | (with_reducible refine LeO.bind ?_ (fun _ => ?_))
theorem port_Right.mono : ∀ a0 k, LeO (port_Right.f k a0) (port_Right.f (k + 1) a0) := by
  intro a0 k
  have ih0 := port_Right.mono_l k
  unfold port_Right.f
  repeat' (with_reducible exact ih0 _ _ _ _)
set_option maxHeartbeats 8000000 in
set_option maxRecDepth 100000 in
theorem port_Right.calls (k : Nat) (A0 : Option Addr) (c0 : Nat) (l0 : List (S76)) (r : Bool) (w : World) (hr0 : Kd.C k76 w A0 l0.length l0) (hc0 : l0.length ≤ c0) (h : port_Right.f k l0 = some r) :
    Calls Try.prog 31 #[.slice A0 l0.length c0] w fun e w' => e = .returned (.bool r) ∧ Below w.heap.size w w' := by
  have hu76 := Try.underlying76
  have hu51 := Try.underlying51
  have hu24 := Try.underlying24
  have HR0 := Aside0.mk hr0
  have HC0 := Aside0.mk hc0
  clear hr0 hc0
  have HB := Aside0.mk (Below.refl w.heap.size w)
  have H : (port_Right.l0 k l0 l0 (l0.length : Int) 0) = some r := h
  clear h
  have H' := Aside0.mk H
  clear H
  go_enter Try.func31, Try.ntmps31
  go_wp2
  go_loopg [7] k (fun kq v7 w' => ∃ (x7_1 : Int), v7 = .int .i64 x7_1 ∧ Aside0 (port_Right.l0 kq l0 l0 (l0.length : Int) x7_1 = some r) ∧ Aside0 (kq ≤ k) ∧ Aside0 (Below w.heap.size w w'))
  case atStart => exact ⟨(0), (by rfl), H', ⟨Nat.le_refl _⟩, ⟨HB.out⟩⟩
  case round =>
    clear H'
    obtain ⟨x7_1, rfl, HA, HK1, HB⟩ := hrel
    cases gk with
    | zero => exact absurd HA.out (by simp [port_Right.l0])
    | succ k1 =>
      have H := HA.out
      clear HA
      simp only [port_Right.l0] at H
      by_cases c2 : x7_1 < (l0.length : Int)
      · rw [if_pos c2] at H
        have c2b0 : decide (x7_1 < (l0.length : Int)) = true := decide_eq_true c2
        clear c2
        by_cases c3 : 0 ≤ x7_1
        · rw [if_pos c3] at H
          have c3b0 : decide (0 ≤ x7_1) = true := decide_eq_true c3
          clear c3
          by_cases c4 : x7_1 < (l0.length : Int)
          · rw [if_pos c4] at H
            have c4b0 : decide (x7_1 < (l0.length : Int)) = true := decide_eq_true c4
            clear c4
            replace H := Option.bind_eq_some_iff.mp H
            obtain ⟨t147, A50, H⟩ := H
            replace H : (if t147 = true then ((ring_Right.f ((rd_T76 l0 x7_1).f1.f0) ((rd_T76 l0 x7_1).f1.f1) ((rd_T76 l0 x7_1).f1.f2)).bind fun t148 => (if t148 = true then ((ring_Right.f ((rd_T76 l0 x7_1).f2.f0) ((rd_T76 l0 x7_1).f2.f1) ((rd_T76 l0 x7_1).f2.f2)).bind fun t149 => (if t149 = true then (if (((rd_T76 l0 x7_1).f1.f0).length : Int) = ((rd_T76 l0 x7_1).f0.f2) then (if (((rd_T76 l0 x7_1).f2.f0).length : Int) = ((rd_T76 l0 x7_1).f0.f2) then (port_Right.l0 k1 l0 l0 (l0.length : Int) (wrap64 (x7_1 + 1))) else (some false)) else (some false)) else (some false))) else (some false))) else (some false)) = some r := H
            have A5 := Aside0.mk A50
            clear A50
            by_cases c6 : t147 = true
            · subst c6
              have H1 : ((ring_Right.f ((rd_T76 l0 x7_1).f1.f0) ((rd_T76 l0 x7_1).f1.f1) ((rd_T76 l0 x7_1).f1.f2)).bind fun t148 => (if t148 = true then ((ring_Right.f ((rd_T76 l0 x7_1).f2.f0) ((rd_T76 l0 x7_1).f2.f1) ((rd_T76 l0 x7_1).f2.f2)).bind fun t149 => (if t149 = true then (if (((rd_T76 l0 x7_1).f1.f0).length : Int) = ((rd_T76 l0 x7_1).f0.f2) then (if (((rd_T76 l0 x7_1).f2.f0).length : Int) = ((rd_T76 l0 x7_1).f0.f2) then (port_Right.l0 k1 l0 l0 (l0.length : Int) (wrap64 (x7_1 + 1))) else (some false)) else (some false)) else (some false))) else (some false))) = some r := by rw [if_pos rfl] at H; exact H
              clear H
              have H := H1
              clear H1
              replace H := Option.bind_eq_some_iff.mp H
              obtain ⟨t148, A70, H⟩ := H
              replace H : (if t148 = true then ((ring_Right.f ((rd_T76 l0 x7_1).f2.f0) ((rd_T76 l0 x7_1).f2.f1) ((rd_T76 l0 x7_1).f2.f2)).bind fun t149 => (if t149 = true then (if (((rd_T76 l0 x7_1).f1.f0).length : Int) = ((rd_T76 l0 x7_1).f0.f2) then (if (((rd_T76 l0 x7_1).f2.f0).length : Int) = ((rd_T76 l0 x7_1).f0.f2) then (port_Right.l0 k1 l0 l0 (l0.length : Int) (wrap64 (x7_1 + 1))) else (some false)) else (some false)) else (some false))) else (some false)) = some r := H
              have A7 := Aside0.mk A70
              clear A70
              by_cases c8 : t148 = true
              · subst c8
                have H1 : ((ring_Right.f ((rd_T76 l0 x7_1).f2.f0) ((rd_T76 l0 x7_1).f2.f1) ((rd_T76 l0 x7_1).f2.f2)).bind fun t149 => (if t149 = true then (if (((rd_T76 l0 x7_1).f1.f0).length : Int) = ((rd_T76 l0 x7_1).f0.f2) then (if (((rd_T76 l0 x7_1).f2.f0).length : Int) = ((rd_T76 l0 x7_1).f0.f2) then (port_Right.l0 k1 l0 l0 (l0.length : Int) (wrap64 (x7_1 + 1))) else (some false)) else (some false)) else (some false))) = some r := by rw [if_pos rfl] at H; exact H
                clear H
                have H := H1
                clear H1
                replace H := Option.bind_eq_some_iff.mp H
                obtain ⟨t149, A90, H⟩ := H
                replace H : (if t149 = true then (if (((rd_T76 l0 x7_1).f1.f0).length : Int) = ((rd_T76 l0 x7_1).f0.f2) then (if (((rd_T76 l0 x7_1).f2.f0).length : Int) = ((rd_T76 l0 x7_1).f0.f2) then (port_Right.l0 k1 l0 l0 (l0.length : Int) (wrap64 (x7_1 + 1))) else (some false)) else (some false)) else (some false)) = some r := H
                have A9 := Aside0.mk A90
                clear A90
                by_cases c10 : t149 = true
                · subst c10
                  have H1 : (if (((rd_T76 l0 x7_1).f1.f0).length : Int) = ((rd_T76 l0 x7_1).f0.f2) then (if (((rd_T76 l0 x7_1).f2.f0).length : Int) = ((rd_T76 l0 x7_1).f0.f2) then (port_Right.l0 k1 l0 l0 (l0.length : Int) (wrap64 (x7_1 + 1))) else (some false)) else (some false)) = some r := by rw [if_pos rfl] at H; exact H
                  clear H
                  have H := H1
                  clear H1
                  by_cases c11 : (((rd_T76 l0 x7_1).f1.f0).length : Int) = ((rd_T76 l0 x7_1).f0.f2)
                  · rw [if_pos c11] at H
                    have c11b0 : ((((rd_T76 l0 x7_1).f1.f0).length : Int) == ((rd_T76 l0 x7_1).f0.f2)) = true := beq_iff_eq.mpr c11
                    have c11b1 : ((((rd_T76 l0 x7_1).f1.f0).length : Int) != ((rd_T76 l0 x7_1).f0.f2)) = false := bne_eq_false_iff_eq.mpr c11
                    clear c11
                    by_cases c12 : (((rd_T76 l0 x7_1).f2.f0).length : Int) = ((rd_T76 l0 x7_1).f0.f2)
                    · rw [if_pos c12] at H
                      have c12b0 : ((((rd_T76 l0 x7_1).f2.f0).length : Int) == ((rd_T76 l0 x7_1).f0.f2)) = true := beq_iff_eq.mpr c12
                      have c12b1 : ((((rd_T76 l0 x7_1).f2.f0).length : Int) != ((rd_T76 l0 x7_1).f0.f2)) = false := bne_eq_false_iff_eq.mpr c12
                      clear c12
                      have H' := Aside0.mk H
                      clear H
                      have p145 : 0 ≤ (x7_1 : Int) := of_decide_eq_true (by (with_reducible assumption))
                      have q145 : x7_1 < (l0.length : Int) := of_decide_eq_true (by (with_reducible assumption))
                      obtain ⟨ad145, A145_3, c145_3, A145_6, c145_6, e145, hx145_0, hx145_1, hx145_2, hx145_3, hx145_4, hx145_5, hx145_6, hx145_7, hx145_8, hl145_3, hi145_3, hl145_6, hi145_6⟩ := at_T76 HR0.out x7_1 p145 q145
                      cases e145
                      replace hx145_0 := bc_ HB.out hx145_0
                      replace hx145_1 := bc_ HB.out hx145_1
                      replace hx145_2 := bc_ HB.out hx145_2
                      replace hx145_3 := bc_ HB.out hx145_3
                      replace hx145_4 := bc_ HB.out hx145_4
                      replace hx145_5 := bc_ HB.out hx145_5
                      replace hx145_6 := bc_ HB.out hx145_6
                      replace hx145_7 := bc_ HB.out hx145_7
                      replace hx145_8 := bc_ HB.out hx145_8
                      have HR145_3 := Aside0.mk hi145_3
                      have HC145_3 := Aside0.mk hl145_3
                      clear hi145_3 hl145_3
                      have HR145_6 := Aside0.mk hi145_6
                      have HC145_6 := Aside0.mk hl145_6
                      clear hi145_6 hl145_6
                      replace p145 := eq_true p145
                      replace q145 := eq_true q145
                      go_wp2_with (first | ((with_reducible refine gate_dst (N := 4) rfl ?_); (try (refine gate_guard (by rfl) ?_; dsimp only)); refine box_event ?hg (N := 4) ?hd (cs := #[.int .i64 0, .int .i64 0, .int .i64 0, .slice none 0 0, .int .i64 0, .int .i64 0, .slice none 0 0, .int .i64 0, .int .i64 0]) (t := 76) ?hr ?_; (case hd => rfl); (case hg => rfl); (case hr => (go_simp; done)); intro gb146 hg w13 hbox hb; have n1_ := Aside0.mk (hbox); have n2_ := Aside0.mk ((by rw [hg]; exact (below_size HB.out) : w.heap.size ≤ gb146)); have n3_ := Aside0.mk ((by rw [hg]; exact (below_size HB.out) : w.heap.size ≤ gb146)); have BK146 := n1_; have GW146 := n2_; have GE146 := n3_; clear n1_ n2_ n3_; replace HB := hb_ HB hb; clear hb hbox hg; obtain ⟨_, _, _, _, _, _, _, _, _, _, _, _, _, _, _, _, _, _⟩ := bk9_ BK146.out) | ((with_reducible refine gate_callee (f := 43) rfl ?_); refine goesL_ (some 13) rfl rfl Try.func43 (by kernel_rfl) rfl #[.agg #[.int .i64 ((rd_T76 l0 x7_1).f0.f0), .int .i64 ((rd_T76 l0 x7_1).f0.f1), .int .i64 ((rd_T76 l0 x7_1).f0.f2)]] rfl (by (try simp only [List.map_toArray, List.map_cons, List.map_nil]); rfl) ?_; (with_reducible refine (port_may.calls ((rd_T76 l0 x7_1).f0.f0) ((rd_T76 l0 x7_1).f0.f1) ((rd_T76 l0 x7_1).f0.f2) true _ A5.out).mono ?_); rintro e w15 ⟨rfl, hb⟩; refine ⟨_, rfl, ?_⟩; have n0_ := Aside0.mk (blk_below (g := gb146) (o := .cells #[.int .i64 ((rd_T76 l0 x7_1).f0.f0), .int .i64 ((rd_T76 l0 x7_1).f0.f1), .int .i64 ((rd_T76 l0 x7_1).f0.f2), .slice A145_3 ((rd_T76 l0 x7_1).f1.f0).length c145_3, .int .i64 ((rd_T76 l0 x7_1).f1.f1), .int .i64 ((rd_T76 l0 x7_1).f1.f2), .slice A145_6 ((rd_T76 l0 x7_1).f2.f0).length c145_6, .int .i64 ((rd_T76 l0 x7_1).f2.f1), .int .i64 ((rd_T76 l0 x7_1).f2.f2)] 76 (0, 0)) (by exact bp9_ BK146.out) hb); have n1_ := Aside0.mk (below_step (by repeat ((with_reducible first | exact HB.out | refine below_set ?_ GE146.out))) hb); clear BK146 HB; have BK146 := n0_; have HB := n1_; clear n0_ n1_; (try clear hb); (try clear hb2); (try clear hk); (try clear hi); obtain ⟨_, _, _, _, _, _, _, _, _, _, _, _, _, _, _, _, _, _⟩ := bk9_ BK146.out) | (go_at_call 17; (with_reducible refine (ring_Right.calls _ _ ((rd_T76 l0 x7_1).f1.f0) ((rd_T76 l0 x7_1).f1.f1) ((rd_T76 l0 x7_1).f1.f2) true _ ?side1 ?side2 A7.out).mono ?_); (case side1 => repeat ((exact (Kd.C_below HR145_3.out HB.out)))); (case side2 => exact HC145_3.out); rintro e w17 ⟨rfl, hb⟩; replace BK146 := kb_ BK146 hb; replace HB := hb_ HB hb; (try clear hb); (try clear hb2); (try clear hk); (try clear hi); obtain ⟨_, _, _, _, _, _, _, _, _, _, _, _, _, _, _, _, _, _⟩ := bk9_ BK146.out) | (go_at_call 17; (with_reducible refine (ring_Right.calls _ _ ((rd_T76 l0 x7_1).f2.f0) ((rd_T76 l0 x7_1).f2.f1) ((rd_T76 l0 x7_1).f2.f2) true _ ?side1 ?side2 A9.out).mono ?_); (case side1 => repeat ((exact (Kd.C_below HR145_6.out HB.out)))); (case side2 => exact HC145_6.out); rintro e w19 ⟨rfl, hb⟩; replace BK146 := kb_ BK146 hb; replace HB := hb_ HB hb; (try clear hb); (try clear hb2); (try clear hk); (try clear hi); obtain ⟨_, _, _, _, _, _, _, _, _, _, _, _, _, _, _, _, _, _⟩ := bk9_ BK146.out))
                      go_roundg k1
                      case measure => have := HK1.out; omega
                      case rel => exact ⟨(wrap64 (x7_1 + 1)), (by rfl), H', ⟨by have := HK1.out; omega⟩, ⟨HB.out⟩⟩
                    · rw [if_neg c12] at H
                      have c12b0 : ((((rd_T76 l0 x7_1).f2.f0).length : Int) == ((rd_T76 l0 x7_1).f0.f2)) = false := beq_eq_false_iff_ne.mpr c12
                      have c12b1 : ((((rd_T76 l0 x7_1).f2.f0).length : Int) != ((rd_T76 l0 x7_1).f0.f2)) = true := bne_iff_ne.mpr c12
                      obtain rfl := Option.some.inj H
                      have p145 : 0 ≤ (x7_1 : Int) := of_decide_eq_true (by (with_reducible assumption))
                      have q145 : x7_1 < (l0.length : Int) := of_decide_eq_true (by (with_reducible assumption))
                      obtain ⟨ad145, A145_3, c145_3, A145_6, c145_6, e145, hx145_0, hx145_1, hx145_2, hx145_3, hx145_4, hx145_5, hx145_6, hx145_7, hx145_8, hl145_3, hi145_3, hl145_6, hi145_6⟩ := at_T76 HR0.out x7_1 p145 q145
                      cases e145
                      replace hx145_0 := bc_ HB.out hx145_0
                      replace hx145_1 := bc_ HB.out hx145_1
                      replace hx145_2 := bc_ HB.out hx145_2
                      replace hx145_3 := bc_ HB.out hx145_3
                      replace hx145_4 := bc_ HB.out hx145_4
                      replace hx145_5 := bc_ HB.out hx145_5
                      replace hx145_6 := bc_ HB.out hx145_6
                      replace hx145_7 := bc_ HB.out hx145_7
                      replace hx145_8 := bc_ HB.out hx145_8
                      have HR145_3 := Aside0.mk hi145_3
                      have HC145_3 := Aside0.mk hl145_3
                      clear hi145_3 hl145_3
                      have HR145_6 := Aside0.mk hi145_6
                      have HC145_6 := Aside0.mk hl145_6
                      clear hi145_6 hl145_6
                      replace p145 := eq_true p145
                      replace q145 := eq_true q145
                      go_wp2_with (first | ((with_reducible refine gate_dst (N := 4) rfl ?_); (try (refine gate_guard (by rfl) ?_; dsimp only)); refine box_event ?hg (N := 4) ?hd (cs := #[.int .i64 0, .int .i64 0, .int .i64 0, .slice none 0 0, .int .i64 0, .int .i64 0, .slice none 0 0, .int .i64 0, .int .i64 0]) (t := 76) ?hr ?_; (case hd => rfl); (case hg => rfl); (case hr => (go_simp; done)); intro gb146 hg w21 hbox hb; have n1_ := Aside0.mk (hbox); have n2_ := Aside0.mk ((by rw [hg]; exact (below_size HB.out) : w.heap.size ≤ gb146)); have n3_ := Aside0.mk ((by rw [hg]; exact (below_size HB.out) : w.heap.size ≤ gb146)); have BK146 := n1_; have GW146 := n2_; have GE146 := n3_; clear n1_ n2_ n3_; replace HB := hb_ HB hb; clear hb hbox hg; obtain ⟨_, _, _, _, _, _, _, _, _, _, _, _, _, _, _, _, _, _⟩ := bk9_ BK146.out) | ((with_reducible refine gate_callee (f := 43) rfl ?_); refine goesL_ (some 13) rfl rfl Try.func43 (by kernel_rfl) rfl #[.agg #[.int .i64 ((rd_T76 l0 x7_1).f0.f0), .int .i64 ((rd_T76 l0 x7_1).f0.f1), .int .i64 ((rd_T76 l0 x7_1).f0.f2)]] rfl (by (try simp only [List.map_toArray, List.map_cons, List.map_nil]); rfl) ?_; (with_reducible refine (port_may.calls ((rd_T76 l0 x7_1).f0.f0) ((rd_T76 l0 x7_1).f0.f1) ((rd_T76 l0 x7_1).f0.f2) true _ A5.out).mono ?_); rintro e w23 ⟨rfl, hb⟩; refine ⟨_, rfl, ?_⟩; have n0_ := Aside0.mk (blk_below (g := gb146) (o := .cells #[.int .i64 ((rd_T76 l0 x7_1).f0.f0), .int .i64 ((rd_T76 l0 x7_1).f0.f1), .int .i64 ((rd_T76 l0 x7_1).f0.f2), .slice A145_3 ((rd_T76 l0 x7_1).f1.f0).length c145_3, .int .i64 ((rd_T76 l0 x7_1).f1.f1), .int .i64 ((rd_T76 l0 x7_1).f1.f2), .slice A145_6 ((rd_T76 l0 x7_1).f2.f0).length c145_6, .int .i64 ((rd_T76 l0 x7_1).f2.f1), .int .i64 ((rd_T76 l0 x7_1).f2.f2)] 76 (0, 0)) (by exact bp9_ BK146.out) hb); have n1_ := Aside0.mk (below_step (by repeat ((with_reducible first | exact HB.out | refine below_set ?_ GE146.out))) hb); clear BK146 HB; have BK146 := n0_; have HB := n1_; clear n0_ n1_; (try clear hb); (try clear hb2); (try clear hk); (try clear hi); obtain ⟨_, _, _, _, _, _, _, _, _, _, _, _, _, _, _, _, _, _⟩ := bk9_ BK146.out) | (go_at_call 17; (with_reducible refine (ring_Right.calls _ _ ((rd_T76 l0 x7_1).f1.f0) ((rd_T76 l0 x7_1).f1.f1) ((rd_T76 l0 x7_1).f1.f2) true _ ?side1 ?side2 A7.out).mono ?_); (case side1 => repeat ((exact (Kd.C_below HR145_3.out HB.out)))); (case side2 => exact HC145_3.out); rintro e w25 ⟨rfl, hb⟩; replace BK146 := kb_ BK146 hb; replace HB := hb_ HB hb; (try clear hb); (try clear hb2); (try clear hk); (try clear hi); obtain ⟨_, _, _, _, _, _, _, _, _, _, _, _, _, _, _, _, _, _⟩ := bk9_ BK146.out) | (go_at_call 17; (with_reducible refine (ring_Right.calls _ _ ((rd_T76 l0 x7_1).f2.f0) ((rd_T76 l0 x7_1).f2.f1) ((rd_T76 l0 x7_1).f2.f2) true _ ?side1 ?side2 A9.out).mono ?_); (case side1 => repeat ((exact (Kd.C_below HR145_6.out HB.out)))); (case side2 => exact HC145_6.out); rintro e w27 ⟨rfl, hb⟩; replace BK146 := kb_ BK146 hb; replace HB := hb_ HB hb; (try clear hb); (try clear hb2); (try clear hk); (try clear hi); obtain ⟨_, _, _, _, _, _, _, _, _, _, _, _, _, _, _, _, _, _⟩ := bk9_ BK146.out))
                      go_ret
                      exact ⟨by rfl, by repeat ((with_reducible (exact HB.out)))⟩
                  · rw [if_neg c11] at H
                    have c11b0 : ((((rd_T76 l0 x7_1).f1.f0).length : Int) == ((rd_T76 l0 x7_1).f0.f2)) = false := beq_eq_false_iff_ne.mpr c11
                    have c11b1 : ((((rd_T76 l0 x7_1).f1.f0).length : Int) != ((rd_T76 l0 x7_1).f0.f2)) = true := bne_iff_ne.mpr c11
                    obtain rfl := Option.some.inj H
                    have p145 : 0 ≤ (x7_1 : Int) := of_decide_eq_true (by (with_reducible assumption))
                    have q145 : x7_1 < (l0.length : Int) := of_decide_eq_true (by (with_reducible assumption))
                    obtain ⟨ad145, A145_3, c145_3, A145_6, c145_6, e145, hx145_0, hx145_1, hx145_2, hx145_3, hx145_4, hx145_5, hx145_6, hx145_7, hx145_8, hl145_3, hi145_3, hl145_6, hi145_6⟩ := at_T76 HR0.out x7_1 p145 q145
                    cases e145
                    replace hx145_0 := bc_ HB.out hx145_0
                    replace hx145_1 := bc_ HB.out hx145_1
                    replace hx145_2 := bc_ HB.out hx145_2
                    replace hx145_3 := bc_ HB.out hx145_3
                    replace hx145_4 := bc_ HB.out hx145_4
                    replace hx145_5 := bc_ HB.out hx145_5
                    replace hx145_6 := bc_ HB.out hx145_6
                    replace hx145_7 := bc_ HB.out hx145_7
                    replace hx145_8 := bc_ HB.out hx145_8
                    have HR145_3 := Aside0.mk hi145_3
                    have HC145_3 := Aside0.mk hl145_3
                    clear hi145_3 hl145_3
                    have HR145_6 := Aside0.mk hi145_6
                    have HC145_6 := Aside0.mk hl145_6
                    clear hi145_6 hl145_6
                    replace p145 := eq_true p145
                    replace q145 := eq_true q145
                    go_wp2_with (first | ((with_reducible refine gate_dst (N := 4) rfl ?_); (try (refine gate_guard (by rfl) ?_; dsimp only)); refine box_event ?hg (N := 4) ?hd (cs := #[.int .i64 0, .int .i64 0, .int .i64 0, .slice none 0 0, .int .i64 0, .int .i64 0, .slice none 0 0, .int .i64 0, .int .i64 0]) (t := 76) ?hr ?_; (case hd => rfl); (case hg => rfl); (case hr => (go_simp; done)); intro gb146 hg w29 hbox hb; have n1_ := Aside0.mk (hbox); have n2_ := Aside0.mk ((by rw [hg]; exact (below_size HB.out) : w.heap.size ≤ gb146)); have n3_ := Aside0.mk ((by rw [hg]; exact (below_size HB.out) : w.heap.size ≤ gb146)); have BK146 := n1_; have GW146 := n2_; have GE146 := n3_; clear n1_ n2_ n3_; replace HB := hb_ HB hb; clear hb hbox hg; obtain ⟨_, _, _, _, _, _, _, _, _, _, _, _, _, _, _, _, _, _⟩ := bk9_ BK146.out) | ((with_reducible refine gate_callee (f := 43) rfl ?_); refine goesL_ (some 13) rfl rfl Try.func43 (by kernel_rfl) rfl #[.agg #[.int .i64 ((rd_T76 l0 x7_1).f0.f0), .int .i64 ((rd_T76 l0 x7_1).f0.f1), .int .i64 ((rd_T76 l0 x7_1).f0.f2)]] rfl (by (try simp only [List.map_toArray, List.map_cons, List.map_nil]); rfl) ?_; (with_reducible refine (port_may.calls ((rd_T76 l0 x7_1).f0.f0) ((rd_T76 l0 x7_1).f0.f1) ((rd_T76 l0 x7_1).f0.f2) true _ A5.out).mono ?_); rintro e w31 ⟨rfl, hb⟩; refine ⟨_, rfl, ?_⟩; have n0_ := Aside0.mk (blk_below (g := gb146) (o := .cells #[.int .i64 ((rd_T76 l0 x7_1).f0.f0), .int .i64 ((rd_T76 l0 x7_1).f0.f1), .int .i64 ((rd_T76 l0 x7_1).f0.f2), .slice A145_3 ((rd_T76 l0 x7_1).f1.f0).length c145_3, .int .i64 ((rd_T76 l0 x7_1).f1.f1), .int .i64 ((rd_T76 l0 x7_1).f1.f2), .slice A145_6 ((rd_T76 l0 x7_1).f2.f0).length c145_6, .int .i64 ((rd_T76 l0 x7_1).f2.f1), .int .i64 ((rd_T76 l0 x7_1).f2.f2)] 76 (0, 0)) (by exact bp9_ BK146.out) hb); have n1_ := Aside0.mk (below_step (by repeat ((with_reducible first | exact HB.out | refine below_set ?_ GE146.out))) hb); clear BK146 HB; have BK146 := n0_; have HB := n1_; clear n0_ n1_; (try clear hb); (try clear hb2); (try clear hk); (try clear hi); obtain ⟨_, _, _, _, _, _, _, _, _, _, _, _, _, _, _, _, _, _⟩ := bk9_ BK146.out) | (go_at_call 17; (with_reducible refine (ring_Right.calls _ _ ((rd_T76 l0 x7_1).f1.f0) ((rd_T76 l0 x7_1).f1.f1) ((rd_T76 l0 x7_1).f1.f2) true _ ?side1 ?side2 A7.out).mono ?_); (case side1 => repeat ((exact (Kd.C_below HR145_3.out HB.out)))); (case side2 => exact HC145_3.out); rintro e w33 ⟨rfl, hb⟩; replace BK146 := kb_ BK146 hb; replace HB := hb_ HB hb; (try clear hb); (try clear hb2); (try clear hk); (try clear hi); obtain ⟨_, _, _, _, _, _, _, _, _, _, _, _, _, _, _, _, _, _⟩ := bk9_ BK146.out) | (go_at_call 17; (with_reducible refine (ring_Right.calls _ _ ((rd_T76 l0 x7_1).f2.f0) ((rd_T76 l0 x7_1).f2.f1) ((rd_T76 l0 x7_1).f2.f2) true _ ?side1 ?side2 A9.out).mono ?_); (case side1 => repeat ((exact (Kd.C_below HR145_6.out HB.out)))); (case side2 => exact HC145_6.out); rintro e w35 ⟨rfl, hb⟩; replace BK146 := kb_ BK146 hb; replace HB := hb_ HB hb; (try clear hb); (try clear hb2); (try clear hk); (try clear hi); obtain ⟨_, _, _, _, _, _, _, _, _, _, _, _, _, _, _, _, _, _⟩ := bk9_ BK146.out))
                    go_ret
                    exact ⟨by rfl, by repeat ((with_reducible (exact HB.out)))⟩
                · replace c10 := Bool.eq_false_iff.mpr c10
                  subst c10
                  have H1 : (some false) = some r := by rw [if_neg (show ¬ (false = true) by decide)] at H; exact H
                  clear H
                  have H := H1
                  clear H1
                  obtain rfl := Option.some.inj H
                  have p145 : 0 ≤ (x7_1 : Int) := of_decide_eq_true (by (with_reducible assumption))
                  have q145 : x7_1 < (l0.length : Int) := of_decide_eq_true (by (with_reducible assumption))
                  obtain ⟨ad145, A145_3, c145_3, A145_6, c145_6, e145, hx145_0, hx145_1, hx145_2, hx145_3, hx145_4, hx145_5, hx145_6, hx145_7, hx145_8, hl145_3, hi145_3, hl145_6, hi145_6⟩ := at_T76 HR0.out x7_1 p145 q145
                  cases e145
                  replace hx145_0 := bc_ HB.out hx145_0
                  replace hx145_1 := bc_ HB.out hx145_1
                  replace hx145_2 := bc_ HB.out hx145_2
                  replace hx145_3 := bc_ HB.out hx145_3
                  replace hx145_4 := bc_ HB.out hx145_4
                  replace hx145_5 := bc_ HB.out hx145_5
                  replace hx145_6 := bc_ HB.out hx145_6
                  replace hx145_7 := bc_ HB.out hx145_7
                  replace hx145_8 := bc_ HB.out hx145_8
                  have HR145_3 := Aside0.mk hi145_3
                  have HC145_3 := Aside0.mk hl145_3
                  clear hi145_3 hl145_3
                  have HR145_6 := Aside0.mk hi145_6
                  have HC145_6 := Aside0.mk hl145_6
                  clear hi145_6 hl145_6
                  replace p145 := eq_true p145
                  replace q145 := eq_true q145
                  go_wp2_with (first | ((with_reducible refine gate_dst (N := 4) rfl ?_); (try (refine gate_guard (by rfl) ?_; dsimp only)); refine box_event ?hg (N := 4) ?hd (cs := #[.int .i64 0, .int .i64 0, .int .i64 0, .slice none 0 0, .int .i64 0, .int .i64 0, .slice none 0 0, .int .i64 0, .int .i64 0]) (t := 76) ?hr ?_; (case hd => rfl); (case hg => rfl); (case hr => (go_simp; done)); intro gb146 hg w37 hbox hb; have n1_ := Aside0.mk (hbox); have n2_ := Aside0.mk ((by rw [hg]; exact (below_size HB.out) : w.heap.size ≤ gb146)); have n3_ := Aside0.mk ((by rw [hg]; exact (below_size HB.out) : w.heap.size ≤ gb146)); have BK146 := n1_; have GW146 := n2_; have GE146 := n3_; clear n1_ n2_ n3_; replace HB := hb_ HB hb; clear hb hbox hg; obtain ⟨_, _, _, _, _, _, _, _, _, _, _, _, _, _, _, _, _, _⟩ := bk9_ BK146.out) | ((with_reducible refine gate_callee (f := 43) rfl ?_); refine goesL_ (some 13) rfl rfl Try.func43 (by kernel_rfl) rfl #[.agg #[.int .i64 ((rd_T76 l0 x7_1).f0.f0), .int .i64 ((rd_T76 l0 x7_1).f0.f1), .int .i64 ((rd_T76 l0 x7_1).f0.f2)]] rfl (by (try simp only [List.map_toArray, List.map_cons, List.map_nil]); rfl) ?_; (with_reducible refine (port_may.calls ((rd_T76 l0 x7_1).f0.f0) ((rd_T76 l0 x7_1).f0.f1) ((rd_T76 l0 x7_1).f0.f2) true _ A5.out).mono ?_); rintro e w39 ⟨rfl, hb⟩; refine ⟨_, rfl, ?_⟩; have n0_ := Aside0.mk (blk_below (g := gb146) (o := .cells #[.int .i64 ((rd_T76 l0 x7_1).f0.f0), .int .i64 ((rd_T76 l0 x7_1).f0.f1), .int .i64 ((rd_T76 l0 x7_1).f0.f2), .slice A145_3 ((rd_T76 l0 x7_1).f1.f0).length c145_3, .int .i64 ((rd_T76 l0 x7_1).f1.f1), .int .i64 ((rd_T76 l0 x7_1).f1.f2), .slice A145_6 ((rd_T76 l0 x7_1).f2.f0).length c145_6, .int .i64 ((rd_T76 l0 x7_1).f2.f1), .int .i64 ((rd_T76 l0 x7_1).f2.f2)] 76 (0, 0)) (by exact bp9_ BK146.out) hb); have n1_ := Aside0.mk (below_step (by repeat ((with_reducible first | exact HB.out | refine below_set ?_ GE146.out))) hb); clear BK146 HB; have BK146 := n0_; have HB := n1_; clear n0_ n1_; (try clear hb); (try clear hb2); (try clear hk); (try clear hi); obtain ⟨_, _, _, _, _, _, _, _, _, _, _, _, _, _, _, _, _, _⟩ := bk9_ BK146.out) | (go_at_call 17; (with_reducible refine (ring_Right.calls _ _ ((rd_T76 l0 x7_1).f1.f0) ((rd_T76 l0 x7_1).f1.f1) ((rd_T76 l0 x7_1).f1.f2) true _ ?side1 ?side2 A7.out).mono ?_); (case side1 => repeat ((exact (Kd.C_below HR145_3.out HB.out)))); (case side2 => exact HC145_3.out); rintro e w41 ⟨rfl, hb⟩; replace BK146 := kb_ BK146 hb; replace HB := hb_ HB hb; (try clear hb); (try clear hb2); (try clear hk); (try clear hi); obtain ⟨_, _, _, _, _, _, _, _, _, _, _, _, _, _, _, _, _, _⟩ := bk9_ BK146.out) | (go_at_call 17; (with_reducible refine (ring_Right.calls _ _ ((rd_T76 l0 x7_1).f2.f0) ((rd_T76 l0 x7_1).f2.f1) ((rd_T76 l0 x7_1).f2.f2) false _ ?side1 ?side2 A9.out).mono ?_); (case side1 => repeat ((exact (Kd.C_below HR145_6.out HB.out)))); (case side2 => exact HC145_6.out); rintro e w43 ⟨rfl, hb⟩; replace BK146 := kb_ BK146 hb; replace HB := hb_ HB hb; (try clear hb); (try clear hb2); (try clear hk); (try clear hi)))
                  go_ret
                  exact ⟨by rfl, by repeat ((with_reducible (exact HB.out)))⟩
              · replace c8 := Bool.eq_false_iff.mpr c8
                subst c8
                have H1 : (some false) = some r := by rw [if_neg (show ¬ (false = true) by decide)] at H; exact H
                clear H
                have H := H1
                clear H1
                obtain rfl := Option.some.inj H
                have p145 : 0 ≤ (x7_1 : Int) := of_decide_eq_true (by (with_reducible assumption))
                have q145 : x7_1 < (l0.length : Int) := of_decide_eq_true (by (with_reducible assumption))
                obtain ⟨ad145, A145_3, c145_3, A145_6, c145_6, e145, hx145_0, hx145_1, hx145_2, hx145_3, hx145_4, hx145_5, hx145_6, hx145_7, hx145_8, hl145_3, hi145_3, hl145_6, hi145_6⟩ := at_T76 HR0.out x7_1 p145 q145
                cases e145
                replace hx145_0 := bc_ HB.out hx145_0
                replace hx145_1 := bc_ HB.out hx145_1
                replace hx145_2 := bc_ HB.out hx145_2
                replace hx145_3 := bc_ HB.out hx145_3
                replace hx145_4 := bc_ HB.out hx145_4
                replace hx145_5 := bc_ HB.out hx145_5
                replace hx145_6 := bc_ HB.out hx145_6
                replace hx145_7 := bc_ HB.out hx145_7
                replace hx145_8 := bc_ HB.out hx145_8
                have HR145_3 := Aside0.mk hi145_3
                have HC145_3 := Aside0.mk hl145_3
                clear hi145_3 hl145_3
                have HR145_6 := Aside0.mk hi145_6
                have HC145_6 := Aside0.mk hl145_6
                clear hi145_6 hl145_6
                replace p145 := eq_true p145
                replace q145 := eq_true q145
                go_wp2_with (first | ((with_reducible refine gate_dst (N := 4) rfl ?_); (try (refine gate_guard (by rfl) ?_; dsimp only)); refine box_event ?hg (N := 4) ?hd (cs := #[.int .i64 0, .int .i64 0, .int .i64 0, .slice none 0 0, .int .i64 0, .int .i64 0, .slice none 0 0, .int .i64 0, .int .i64 0]) (t := 76) ?hr ?_; (case hd => rfl); (case hg => rfl); (case hr => (go_simp; done)); intro gb146 hg w44 hbox hb; have n1_ := Aside0.mk (hbox); have n2_ := Aside0.mk ((by rw [hg]; exact (below_size HB.out) : w.heap.size ≤ gb146)); have n3_ := Aside0.mk ((by rw [hg]; exact (below_size HB.out) : w.heap.size ≤ gb146)); have BK146 := n1_; have GW146 := n2_; have GE146 := n3_; clear n1_ n2_ n3_; replace HB := hb_ HB hb; clear hb hbox hg; obtain ⟨_, _, _, _, _, _, _, _, _, _, _, _, _, _, _, _, _, _⟩ := bk9_ BK146.out) | ((with_reducible refine gate_callee (f := 43) rfl ?_); refine goesL_ (some 13) rfl rfl Try.func43 (by kernel_rfl) rfl #[.agg #[.int .i64 ((rd_T76 l0 x7_1).f0.f0), .int .i64 ((rd_T76 l0 x7_1).f0.f1), .int .i64 ((rd_T76 l0 x7_1).f0.f2)]] rfl (by (try simp only [List.map_toArray, List.map_cons, List.map_nil]); rfl) ?_; (with_reducible refine (port_may.calls ((rd_T76 l0 x7_1).f0.f0) ((rd_T76 l0 x7_1).f0.f1) ((rd_T76 l0 x7_1).f0.f2) true _ A5.out).mono ?_); rintro e w46 ⟨rfl, hb⟩; refine ⟨_, rfl, ?_⟩; have n0_ := Aside0.mk (blk_below (g := gb146) (o := .cells #[.int .i64 ((rd_T76 l0 x7_1).f0.f0), .int .i64 ((rd_T76 l0 x7_1).f0.f1), .int .i64 ((rd_T76 l0 x7_1).f0.f2), .slice A145_3 ((rd_T76 l0 x7_1).f1.f0).length c145_3, .int .i64 ((rd_T76 l0 x7_1).f1.f1), .int .i64 ((rd_T76 l0 x7_1).f1.f2), .slice A145_6 ((rd_T76 l0 x7_1).f2.f0).length c145_6, .int .i64 ((rd_T76 l0 x7_1).f2.f1), .int .i64 ((rd_T76 l0 x7_1).f2.f2)] 76 (0, 0)) (by exact bp9_ BK146.out) hb); have n1_ := Aside0.mk (below_step (by repeat ((with_reducible first | exact HB.out | refine below_set ?_ GE146.out))) hb); clear BK146 HB; have BK146 := n0_; have HB := n1_; clear n0_ n1_; (try clear hb); (try clear hb2); (try clear hk); (try clear hi); obtain ⟨_, _, _, _, _, _, _, _, _, _, _, _, _, _, _, _, _, _⟩ := bk9_ BK146.out) | (go_at_call 17; (with_reducible refine (ring_Right.calls _ _ ((rd_T76 l0 x7_1).f1.f0) ((rd_T76 l0 x7_1).f1.f1) ((rd_T76 l0 x7_1).f1.f2) false _ ?side1 ?side2 A7.out).mono ?_); (case side1 => repeat ((exact (Kd.C_below HR145_3.out HB.out)))); (case side2 => exact HC145_3.out); rintro e w48 ⟨rfl, hb⟩; replace BK146 := kb_ BK146 hb; replace HB := hb_ HB hb; (try clear hb); (try clear hb2); (try clear hk); (try clear hi)))
                go_ret
                exact ⟨by rfl, by repeat ((with_reducible (exact HB.out)))⟩
            · replace c6 := Bool.eq_false_iff.mpr c6
              subst c6
              have H1 : (some false) = some r := by rw [if_neg (show ¬ (false = true) by decide)] at H; exact H
              clear H
              have H := H1
              clear H1
              obtain rfl := Option.some.inj H
              have p145 : 0 ≤ (x7_1 : Int) := of_decide_eq_true (by (with_reducible assumption))
              have q145 : x7_1 < (l0.length : Int) := of_decide_eq_true (by (with_reducible assumption))
              obtain ⟨ad145, A145_3, c145_3, A145_6, c145_6, e145, hx145_0, hx145_1, hx145_2, hx145_3, hx145_4, hx145_5, hx145_6, hx145_7, hx145_8, hl145_3, hi145_3, hl145_6, hi145_6⟩ := at_T76 HR0.out x7_1 p145 q145
              cases e145
              replace hx145_0 := bc_ HB.out hx145_0
              replace hx145_1 := bc_ HB.out hx145_1
              replace hx145_2 := bc_ HB.out hx145_2
              replace hx145_3 := bc_ HB.out hx145_3
              replace hx145_4 := bc_ HB.out hx145_4
              replace hx145_5 := bc_ HB.out hx145_5
              replace hx145_6 := bc_ HB.out hx145_6
              replace hx145_7 := bc_ HB.out hx145_7
              replace hx145_8 := bc_ HB.out hx145_8
              have HR145_3 := Aside0.mk hi145_3
              have HC145_3 := Aside0.mk hl145_3
              clear hi145_3 hl145_3
              have HR145_6 := Aside0.mk hi145_6
              have HC145_6 := Aside0.mk hl145_6
              clear hi145_6 hl145_6
              replace p145 := eq_true p145
              replace q145 := eq_true q145
              go_wp2_with (first | ((with_reducible refine gate_dst (N := 4) rfl ?_); (try (refine gate_guard (by rfl) ?_; dsimp only)); refine box_event ?hg (N := 4) ?hd (cs := #[.int .i64 0, .int .i64 0, .int .i64 0, .slice none 0 0, .int .i64 0, .int .i64 0, .slice none 0 0, .int .i64 0, .int .i64 0]) (t := 76) ?hr ?_; (case hd => rfl); (case hg => rfl); (case hr => (go_simp; done)); intro gb146 hg w49 hbox hb; have n1_ := Aside0.mk (hbox); have n2_ := Aside0.mk ((by rw [hg]; exact (below_size HB.out) : w.heap.size ≤ gb146)); have n3_ := Aside0.mk ((by rw [hg]; exact (below_size HB.out) : w.heap.size ≤ gb146)); have BK146 := n1_; have GW146 := n2_; have GE146 := n3_; clear n1_ n2_ n3_; replace HB := hb_ HB hb; clear hb hbox hg; obtain ⟨_, _, _, _, _, _, _, _, _, _, _, _, _, _, _, _, _, _⟩ := bk9_ BK146.out) | ((with_reducible refine gate_callee (f := 43) rfl ?_); refine goesL_ (some 13) rfl rfl Try.func43 (by kernel_rfl) rfl #[.agg #[.int .i64 ((rd_T76 l0 x7_1).f0.f0), .int .i64 ((rd_T76 l0 x7_1).f0.f1), .int .i64 ((rd_T76 l0 x7_1).f0.f2)]] rfl (by (try simp only [List.map_toArray, List.map_cons, List.map_nil]); rfl) ?_; (with_reducible refine (port_may.calls ((rd_T76 l0 x7_1).f0.f0) ((rd_T76 l0 x7_1).f0.f1) ((rd_T76 l0 x7_1).f0.f2) false _ A5.out).mono ?_); rintro e w51 ⟨rfl, hb⟩; refine ⟨_, rfl, ?_⟩; have n0_ := Aside0.mk (blk_below (g := gb146) (o := .cells #[.int .i64 ((rd_T76 l0 x7_1).f0.f0), .int .i64 ((rd_T76 l0 x7_1).f0.f1), .int .i64 ((rd_T76 l0 x7_1).f0.f2), .slice A145_3 ((rd_T76 l0 x7_1).f1.f0).length c145_3, .int .i64 ((rd_T76 l0 x7_1).f1.f1), .int .i64 ((rd_T76 l0 x7_1).f1.f2), .slice A145_6 ((rd_T76 l0 x7_1).f2.f0).length c145_6, .int .i64 ((rd_T76 l0 x7_1).f2.f1), .int .i64 ((rd_T76 l0 x7_1).f2.f2)] 76 (0, 0)) (by exact bp9_ BK146.out) hb); have n1_ := Aside0.mk (below_step (by repeat ((with_reducible first | exact HB.out | refine below_set ?_ GE146.out))) hb); clear BK146 HB; have BK146 := n0_; have HB := n1_; clear n0_ n1_; (try clear hb); (try clear hb2); (try clear hk); (try clear hi)))
              go_ret
              exact ⟨by rfl, by repeat ((with_reducible (exact HB.out)))⟩
          · rw [if_neg c4] at H
            exact absurd H (by simp)
        · rw [if_neg c3] at H
          exact absurd H (by simp)
      · rw [if_neg c2] at H
        have c2b0 : decide (x7_1 < (l0.length : Int)) = false := decide_eq_false c2
        clear c2
        obtain rfl := Option.some.inj H
        go_wp2
        go_ret
        exact ⟨by rfl, by repeat ((with_reducible (exact HB.out)))⟩

/-! ### port_with: function 44 -/
def port_with.f (l0 : List (S76)) (a1 : Int) (a2_0 : Int) (a2_1 : Int) (a2_2 : Int) (l2_3 : List Int) (a2_4 : Int) (a2_5 : Int) (l2_6 : List Int) (a2_7 : Int) (a2_8 : Int) : Option ((List (S76))) := (some (([] : List (S76)) : List (S76))).bind fun y151 => (if y151.length + l0.length < 1353245080339 then ((some (y151 ++ l0 : List (S76))).bind fun y154 => (if 0 ≤ a1 then (if a1 < (y154.length : Int) then (some (y154.set (a1 : Int).toNat (⟨(⟨a2_0, a2_1, a2_2⟩ : S51), (⟨l2_3, a2_4, a2_5⟩ : S24), (⟨l2_6, a2_7, a2_8⟩ : S24)⟩ : S76))) else (none)) else (none))) else (none))
set_option maxHeartbeats 8000000 in
set_option maxRecDepth 100000 in
theorem port_with.calls (P0_ : Nat → Prop) (A0 : Option Addr) (c0 : Nat) (l0 : List (S76)) (a1 : Int) (a2_0 : Int) (a2_1 : Int) (a2_2 : Int) (P2_3_ : Nat → Prop) (A2_3 : Option Addr) (c2_3 : Nat) (l2_3 : List Int) (a2_4 : Int) (a2_5 : Int) (P2_6_ : Nat → Prop) (A2_6 : Option Addr) (c2_6 : Nat) (l2_6 : List Int) (a2_7 : Int) (a2_8 : Int) (r : List (S76)) (w : World) (hs0 : Kd.V k76 76 w w.heap.size (fun k_ => P0_ k_) (.slice A0 l0.length c0) l0) (hs2_3 : Kd.V (Kd.int .i64) 3 w w.heap.size (fun k_ => P2_3_ k_) (.slice A2_3 l2_3.length c2_3) l2_3) (hs2_6 : Kd.V (Kd.int .i64) 3 w w.heap.size (fun k_ => P2_6_ k_) (.slice A2_6 l2_6.length c2_6) l2_6) (h : port_with.f l0 a1 a2_0 a2_1 a2_2 l2_3 a2_4 a2_5 l2_6 a2_7 a2_8 = some r) :
    Calls Try.prog 44 #[.slice A0 l0.length c0, .int .i64 a1, .agg #[.int .i64 a2_0, .int .i64 a2_1, .int .i64 a2_2, .slice A2_3 l2_3.length c2_3, .int .i64 a2_4, .int .i64 a2_5, .slice A2_6 l2_6.length c2_6, .int .i64 a2_7, .int .i64 a2_8]] w fun e w' => ∃ v0_ : Value, e = .returned (v0_) ∧ Kd.N k76 76 w' w.heap.size (fun k_ => ((P0_ k_ ∨ P2_3_ k_ ∨ P2_6_ k_) ∨ w.heap.size ≤ k_)) v0_ r ∧ Below w.heap.size w w' := by
  have hu76 := Try.underlying76
  have HO0 := Aside0.mk (show Kd.V k76 76 w w.heap.size (fun k_ => ((P0_ k_ ∨ P2_3_ k_ ∨ P2_6_ k_) ∨ w.heap.size ≤ k_)) (.slice A0 l0.length c0) l0 from Kd.V_mono hs0 (fun k_ hk => .inl (.inl hk)))
  have HO2_3 := Aside0.mk (show Kd.V (Kd.int .i64) 3 w w.heap.size (fun k_ => ((P0_ k_ ∨ P2_3_ k_ ∨ P2_6_ k_) ∨ w.heap.size ≤ k_)) (.slice A2_3 l2_3.length c2_3) l2_3 from Kd.V_mono hs2_3 (fun k_ hk => .inl (.inr (.inl hk))))
  have HO2_6 := Aside0.mk (show Kd.V (Kd.int .i64) 3 w w.heap.size (fun k_ => ((P0_ k_ ∨ P2_3_ k_ ∨ P2_6_ k_) ∨ w.heap.size ≤ k_)) (.slice A2_6 l2_6.length c2_6) l2_6 from Kd.V_mono hs2_6 (fun k_ hk => .inl (.inr (.inr hk))))
  have HB := Aside0.mk (Below.refl w.heap.size w)
  have H : ((some (([] : List (S76)) : List (S76))).bind fun y151 => (if y151.length + l0.length < 1353245080339 then ((some (y151 ++ l0 : List (S76))).bind fun y154 => (if 0 ≤ a1 then (if a1 < (y154.length : Int) then (some (y154.set (a1 : Int).toNat (⟨(⟨a2_0, a2_1, a2_2⟩ : S51), (⟨l2_3, a2_4, a2_5⟩ : S24), (⟨l2_6, a2_7, a2_8⟩ : S24)⟩ : S76))) else (none)) else (none))) else (none))) = some r := h
  clear h
  obtain ⟨y151, hy151⟩ : ∃ y_ : List (S76), y_ = (([] : List (S76))) := ⟨_, rfl⟩
  replace H : (if y151.length + l0.length < 1353245080339 then ((some (y151 ++ l0 : List (S76))).bind fun y154 => (if 0 ≤ a1 then (if a1 < (y154.length : Int) then (some (y154.set (a1 : Int).toNat (⟨(⟨a2_0, a2_1, a2_2⟩ : S51), (⟨l2_3, a2_4, a2_5⟩ : S24), (⟨l2_6, a2_7, a2_8⟩ : S24)⟩ : S76))) else (none)) else (none))) else (none)) = some r := by (have H2_ := (Option.bind_some _ _).symm.trans H; rw [hy151]; with_reducible exact H2_)
  have Ny151 := Aside0.mk hy151
  clear hy151
  by_cases c4 : y151.length + l0.length < 1353245080339
  · rw [if_pos c4] at H
    have LMc4 := Aside0.mk c4
    clear c4
    obtain ⟨y154, hy154⟩ : ∃ y_ : List (S76), y_ = (y151 ++ l0) := ⟨_, rfl⟩
    replace H : (if 0 ≤ a1 then (if a1 < (y154.length : Int) then (some (y154.set (a1 : Int).toNat (⟨(⟨a2_0, a2_1, a2_2⟩ : S51), (⟨l2_3, a2_4, a2_5⟩ : S24), (⟨l2_6, a2_7, a2_8⟩ : S24)⟩ : S76))) else (none)) else (none)) = some r := by (have H2_ := (Option.bind_some _ _).symm.trans H; rw [hy154]; with_reducible exact H2_)
    have Ny154 := Aside0.mk hy154
    clear hy154
    by_cases c5 : 0 ≤ a1
    · rw [if_pos c5] at H
      have c5b0 : decide (0 ≤ a1) = true := decide_eq_true c5
      clear c5
      by_cases c6 : a1 < (y154.length : Int)
      · rw [if_pos c6] at H
        have c6b0 : decide (a1 < (y154.length : Int)) = true := decide_eq_true c6
        clear c6
        obtain ⟨y157, hy157⟩ : ∃ y_ : List (S76), y_ = (y154.set (a1 : Int).toNat (⟨(⟨a2_0, a2_1, a2_2⟩ : S51), (⟨l2_3, a2_4, a2_5⟩ : S24), (⟨l2_6, a2_7, a2_8⟩ : S24)⟩ : S76)) := ⟨_, rfl⟩
        replace H : (some y157) = some r := by (rw [hy157]; with_reducible exact H)
        have Ny157 := Aside0.mk hy157
        clear hy157
        obtain rfl := Option.some.inj H
        go_enter Try.func44, Try.ntmps44
        go_wp2_with (first | ((with_reducible refine gate_dst (N := 5) rfl ?_); refine box_event ?hg (N := 5) ?hd (cs := #[.int .i64 a2_0, .int .i64 a2_1, .int .i64 a2_2, .slice A2_3 l2_3.length c2_3, .int .i64 a2_4, .int .i64 a2_5, .slice A2_6 l2_6.length c2_6, .int .i64 a2_7, .int .i64 a2_8]) (t := 76) ?hr ?_; (case hd => rfl); (case hg => rfl); (case hr => (go_simp; done)); intro gb150 hg w8 hbox hb; have n0_ := Aside0.mk (Kd.V_below (Kd.V_elderB HO0.out gb150 (Nat.le_of_eq hg.symm)) hb); have n1_ := Aside0.mk (Kd.V_below (Kd.V_elderB HO2_3.out gb150 (Nat.le_of_eq hg.symm)) hb); have n2_ := Aside0.mk (Kd.V_below (Kd.V_elderB HO2_6.out gb150 (Nat.le_of_eq hg.symm)) hb); have n4_ := Aside0.mk (hbox); have n5_ := Aside0.mk ((by rw [hg]; exact (below_size HB.out) : w.heap.size ≤ gb150)); have n6_ := Aside0.mk ((by rw [hg]; exact (below_size HB.out) : w.heap.size ≤ gb150)); clear HO0 HO2_3 HO2_6; have HO0 := n0_; have HO2_3 := n1_; have HO2_6 := n2_; have BK150 := n4_; have GW150 := n5_; have GE150 := n6_; clear n0_ n1_ n2_ n4_ n5_ n6_; replace HB := hb_ HB hb; clear hb hbox hg) | ((with_reducible refine gate_dst (N := 8) rfl ?_); refine Kd.N_lit k76 _ 76 ?hg (N' := 8) ?hd (xs := ([] : List (S76))) (inner := []) (ok := (fun k_ => ((P0_ k_ ∨ P2_3_ k_ ∨ P2_6_ k_) ∨ w.heap.size ≤ k_) ∧ k_ ≠ gb150)) (okp := (fun k_ => ((P0_ k_ ∨ P2_3_ k_ ∨ P2_6_ k_) ∨ w.heap.size ≤ k_) ∧ k_ ≠ gb150)) ?hr ?hp (fun _ hk => hk) ((show ∀ k_, w8.heap.size ≤ k_ → (fun k_ => ((P0_ k_ ∨ P2_3_ k_ ∨ P2_6_ k_) ∨ w.heap.size ≤ k_) ∧ k_ ≠ gb150) k_ from fun k_ hk => ⟨(.inr (Nat.le_trans (below_size HB.out) hk)), Kd.freshB BK150.out k_ hk⟩) _ (Nat.le_refl _)) (Below.refl _ _) (Nat.le_refl _) (by simp) ?_; (case hd => rfl); (case hg => rfl); (case hr => (go_simp; done)); (case hp => exact (Reps.none _ _)); intro v152 w9 ho10 hb hg_ hnew_; clear hg_ hnew_; ((rw [← Ny151.out] at ho10)); have n0_ := Aside0.mk (Kd.V_elder' HO0.out (by (exact Kd.N_base ho10)) hb); have n1_ := Aside0.mk (Kd.V_elder' HO2_3.out (by (exact Kd.N_base ho10)) hb); have n2_ := Aside0.mk (Kd.V_elder' HO2_6.out (by (exact Kd.N_base ho10)) hb); have n3_ := Aside0.mk (Kd.N_lower ho10 (below_size HB.out)); clear HO0 HO2_3 HO2_6; have HO0 := n0_; have HO2_3 := n1_; have HO2_6 := n2_; have HO153 := n3_; clear n0_ n1_ n2_ n3_; replace BK150 := kb_ BK150 hb; replace HB := hb_ HB hb; clear hb ho10) | ((with_reducible refine gate_builtin (b := .append) (xs := #[.tmp 8, .tmp 9]) rfl ?_); at_builtin; refine Kd.N_append_rows k76 (w0 := w) w.heap.size rfl (.tmp 8) (.tmp 9) 47 76 (.agg #[(.int .i64 0), (.int .i64 0), (.int .i64 0), (.slice none 0 0), (.int .i64 0), (.int .i64 0), (.slice none 0 0), (.int .i64 0), (.int .i64 0)]) 104 rfl Try.underlying47 info76 rfl (by decide) (by omega) v152 y151 l0 _ _ _ (fun k_ => ((P0_ k_ ∨ P2_3_ k_ ∨ P2_6_ k_) ∨ w.heap.size ≤ k_) ∧ k_ ≠ gb150) (fun k_ => ((fun k_ => ((P0_ k_ ∨ P2_3_ k_ ∨ P2_6_ k_) ∨ w.heap.size ≤ k_) ∧ k_ ≠ gb150)) k_ ∧ some k_ ≠ (v152 : Value).ownBlock) rfl rfl ?aO ?aR (fun _ hk => hk) ?aF ?aB ?aS ?aL ?_; (case aR => exact (by skip; exact Kd.V_F (Kd.V_mono (ok' := (fun k_ => ((fun k_ => ((P0_ k_ ∨ P2_3_ k_ ∨ P2_6_ k_) ∨ w.heap.size ≤ k_) ∧ k_ ≠ gb150)) k_ ∧ some k_ ≠ (v152 : Value).ownBlock)) (HO0.out) (fun k_ hk => ⟨⟨hk.1.1, hk.1.2⟩, hk.2⟩)))); (case aB => exact HB.out); (case aF => exact (fun k_ hk => ⟨(.inr (Nat.le_trans (below_size HB.out) hk)), Kd.freshB BK150.out k_ hk⟩)); (case aO => exact HO153.out); (case aS => exact (below_size HB.out)); (case aL => have := LMc4.out; omega); intro v155 w11 ho hb hg hat; rw [← Ny154.out] at ho; have n0_ := Aside0.mk (Kd.V_afterv (ok := (fun k_ => ((P0_ k_ ∨ P2_3_ k_ ∨ P2_6_ k_) ∨ w.heap.size ≤ k_) ∧ k_ ≠ gb150)) HO0.out hg hat); have n1_ := Aside0.mk (Kd.V_afterv (ok := (fun k_ => ((P0_ k_ ∨ P2_3_ k_ ∨ P2_6_ k_) ∨ w.heap.size ≤ k_) ∧ k_ ≠ gb150)) HO2_3.out hg hat); have n2_ := Aside0.mk (Kd.V_afterv (ok := (fun k_ => ((P0_ k_ ∨ P2_3_ k_ ∨ P2_6_ k_) ∨ w.heap.size ≤ k_) ∧ k_ ≠ gb150)) HO2_6.out hg hat); have n3_ := Aside0.mk (blk_grown BK150.out hg (Kd.N_away HO153.out (fun _ hk => hk.2))); have n4_ := Aside0.mk (hb); have n5_ := Aside0.mk (ho); clear HO0 HO2_3 HO2_6 BK150 HB HO153; have HO0 := n0_; have HO2_3 := n1_; have HO2_6 := n2_; have BK150 := n3_; have HB := n4_; have HO156 := n5_; clear n0_ n1_ n2_ n3_ n4_ n5_; clear ho hb hg hat; obtain ⟨_, _, _, _, _, _, _, _, _, _, _, _, _, _, _, _, _, _⟩ := bk9_ BK150.out; have p7 : 0 ≤ (a1 : Int) := of_decide_eq_true (by (with_reducible assumption)); have q7 : (a1 : Int) < ((y154.length : Int) : Int) := of_decide_eq_true (by (with_reducible assumption)); obtain ⟨go7, co7, eo7, gb7, gl7, cl7, HG7⟩ := Kd.N_form HO156.out (by omega); ((cases eo7)); have GB7 := Aside0.mk gb7; have GG7 := Aside0.mk HG7; clear gb7 gl7 HG7; obtain ⟨ce7, hcl7, hM7, hcc7, hfr7⟩ := Kd.N_elem HO156.out z76 (a1 : Int) p7 q7; obtain ⟨ua7_3, uc7_3, ua7_6, uc7_6, rfl, ul7_3, ge7_3, ul7_6, ge7_6⟩ := k76_openF hM7; have hx7_0 : w11.cell? ⟨go7, (a1 : Int).toNat * 9, none⟩ = some (.int .i64 ((rd_T76 y154 a1).f0.f0)) := hcc7 0 _ rfl; have hx7_1 : w11.cell? ⟨go7, (a1 : Int).toNat * 9 + 1, none⟩ = some (.int .i64 ((rd_T76 y154 a1).f0.f1)) := hcc7 1 _ rfl; have hx7_2 : w11.cell? ⟨go7, (a1 : Int).toNat * 9 + 2, none⟩ = some (.int .i64 ((rd_T76 y154 a1).f0.f2)) := hcc7 2 _ rfl; have hx7_3 : w11.cell? ⟨go7, (a1 : Int).toNat * 9 + 3, none⟩ = some (.slice ua7_3 ((rd_T76 y154 a1).f1.f0).length uc7_3) := hcc7 3 _ rfl; have hx7_4 : w11.cell? ⟨go7, (a1 : Int).toNat * 9 + 4, none⟩ = some (.int .i64 ((rd_T76 y154 a1).f1.f1)) := hcc7 4 _ rfl; have hx7_5 : w11.cell? ⟨go7, (a1 : Int).toNat * 9 + 5, none⟩ = some (.int .i64 ((rd_T76 y154 a1).f1.f2)) := hcc7 5 _ rfl; have hx7_6 : w11.cell? ⟨go7, (a1 : Int).toNat * 9 + 6, none⟩ = some (.slice ua7_6 ((rd_T76 y154 a1).f2.f0).length uc7_6) := hcc7 6 _ rfl; have hx7_7 : w11.cell? ⟨go7, (a1 : Int).toNat * 9 + 7, none⟩ = some (.int .i64 ((rd_T76 y154 a1).f2.f1)) := hcc7 7 _ rfl; have hx7_8 : w11.cell? ⟨go7, (a1 : Int).toNat * 9 + 8, none⟩ = some (.int .i64 ((rd_T76 y154 a1).f2.f2)) := hcc7 8 _ rfl; have hf7_0 : w11.frozen? ⟨go7, (a1 : Int).toNat * 9, none⟩ = false := hfr7 0; have hf7_1 : w11.frozen? ⟨go7, (a1 : Int).toNat * 9 + 1, none⟩ = false := hfr7 1; have hf7_2 : w11.frozen? ⟨go7, (a1 : Int).toNat * 9 + 2, none⟩ = false := hfr7 2; have hf7_3 : w11.frozen? ⟨go7, (a1 : Int).toNat * 9 + 3, none⟩ = false := hfr7 3; have hf7_4 : w11.frozen? ⟨go7, (a1 : Int).toNat * 9 + 4, none⟩ = false := hfr7 4; have hf7_5 : w11.frozen? ⟨go7, (a1 : Int).toNat * 9 + 5, none⟩ = false := hfr7 5; have hf7_6 : w11.frozen? ⟨go7, (a1 : Int).toNat * 9 + 6, none⟩ = false := hfr7 6; have hf7_7 : w11.frozen? ⟨go7, (a1 : Int).toNat * 9 + 7, none⟩ = false := hfr7 7; have hf7_8 : w11.frozen? ⟨go7, (a1 : Int).toNat * 9 + 8, none⟩ = false := hfr7 8; clear hcl7 hcc7 hfr7 hM7; replace p7 := eq_true p7; replace q7 := eq_true q7; have HX13 := Aside0.mk (show Kd.N k76 76 w11 w.heap.size (fun k_ => ((P0_ k_ ∨ P2_3_ k_ ∨ P2_6_ k_) ∨ w.heap.size ≤ k_) ∧ k_ ≠ gb150) (.slice (some ⟨go7, 0, none⟩) y154.length co7) y154 from HO156.out); obtain ⟨ce13, hcl13, hM13, hcc13, hfr13⟩ := Kd.N_elem HX13.out z76 (a1 : Int) (of_decide_eq_true (by (with_reducible assumption))) (by have h_ : (a1 : Int) < ((y154.length : Int) : Int) := of_decide_eq_true (by (with_reducible assumption)); (exact h_)); obtain ⟨ua13_3, uc13_3, ua13_6, uc13_6, rfl, ul13_3, ge13_3, ul13_6, ge13_6⟩ := k76_openF hM13; have HP13 := Kd.N_seg HX13.out (a1 : Int) (of_decide_eq_true (by (with_reducible assumption))) (by have h_ : (a1 : Int) < ((y154.length : Int) : Int) := of_decide_eq_true (by (with_reducible assumption)); (exact h_)) (seg := [.int .i64 a2_0, .int .i64 a2_1, .int .i64 a2_2, .slice A2_3 l2_3.length c2_3, .int .i64 a2_4, .int .i64 a2_5, .slice A2_6 l2_6.length c2_6, .int .i64 a2_7, .int .i64 a2_8]) (j := 0) hcl13 hcc13 (show 9 ≤ 9 from by decide) (x' := (⟨(⟨a2_0, a2_1, a2_2⟩ : S51), (⟨l2_3, a2_4, a2_5⟩ : S24), (⟨l2_6, a2_7, a2_8⟩ : S24)⟩ : S76)) (k76_mkF _ _ (⟨(⟨a2_0, a2_1, a2_2⟩ : S51), (⟨l2_3, a2_4, a2_5⟩ : S24), (⟨l2_6, a2_7, a2_8⟩ : S24)⟩ : S76) (Kd.V_reads' (Kd.V_mono (ok' := (fun k_ => ((fun k_ => ((P0_ k_ ∨ P2_3_ k_ ∨ P2_6_ k_) ∨ w.heap.size ≤ k_) ∧ k_ ≠ gb150)) k_ ∧ k_ ≠ go7)) (HO2_3.out) (fun k_ hk => ⟨⟨hk.1.1, hk.1.2⟩, fun e_ => (hk.2) (by rw [e_]; rfl)⟩))).2.1 (Kd.V_F (Kd.V_mono (ok' := (fun k_ => ((fun k_ => ((P0_ k_ ∨ P2_3_ k_ ∨ P2_6_ k_) ∨ w.heap.size ≤ k_) ∧ k_ ≠ gb150)) k_ ∧ k_ ≠ go7)) (HO2_3.out) (fun k_ hk => ⟨⟨hk.1.1, hk.1.2⟩, fun e_ => (hk.2) (by rw [e_]; rfl)⟩))) (Kd.V_reads' (Kd.V_mono (ok' := (fun k_ => ((fun k_ => ((P0_ k_ ∨ P2_3_ k_ ∨ P2_6_ k_) ∨ w.heap.size ≤ k_) ∧ k_ ≠ gb150)) k_ ∧ k_ ≠ go7)) (HO2_6.out) (fun k_ hk => ⟨⟨hk.1.1, hk.1.2⟩, fun e_ => (hk.2) (by rw [e_]; rfl)⟩))).2.1 (Kd.V_F (Kd.V_mono (ok' := (fun k_ => ((fun k_ => ((P0_ k_ ∨ P2_3_ k_ ∨ P2_6_ k_) ∨ w.heap.size ≤ k_) ∧ k_ ≠ gb150)) k_ ∧ k_ ≠ go7)) (HO2_6.out) (fun k_ hk => ⟨⟨hk.1.1, hk.1.2⟩, fun e_ => (hk.2) (by rw [e_]; rfl)⟩)))) (fun _ hk => hk); have hx13_0 := hcc13 0 _ rfl; (try simp only [show (k76).sz = 9 from rfl, Nat.mul_one, Nat.add_zero] at hx13_0); have hf13_0 := hfr13 0; (try simp only [show (k76).sz = 9 from rfl, Nat.mul_one, Nat.add_zero] at hf13_0); have hx13_1 := hcc13 1 _ rfl; (try simp only [show (k76).sz = 9 from rfl, Nat.mul_one, Nat.add_zero] at hx13_1); have hf13_1 := hfr13 1; (try simp only [show (k76).sz = 9 from rfl, Nat.mul_one, Nat.add_zero] at hf13_1); have hx13_2 := hcc13 2 _ rfl; (try simp only [show (k76).sz = 9 from rfl, Nat.mul_one, Nat.add_zero] at hx13_2); have hf13_2 := hfr13 2; (try simp only [show (k76).sz = 9 from rfl, Nat.mul_one, Nat.add_zero] at hf13_2); have hx13_3 := hcc13 3 _ rfl; (try simp only [show (k76).sz = 9 from rfl, Nat.mul_one, Nat.add_zero] at hx13_3); have hf13_3 := hfr13 3; (try simp only [show (k76).sz = 9 from rfl, Nat.mul_one, Nat.add_zero] at hf13_3); have hx13_4 := hcc13 4 _ rfl; (try simp only [show (k76).sz = 9 from rfl, Nat.mul_one, Nat.add_zero] at hx13_4); have hf13_4 := hfr13 4; (try simp only [show (k76).sz = 9 from rfl, Nat.mul_one, Nat.add_zero] at hf13_4); have hx13_5 := hcc13 5 _ rfl; (try simp only [show (k76).sz = 9 from rfl, Nat.mul_one, Nat.add_zero] at hx13_5); have hf13_5 := hfr13 5; (try simp only [show (k76).sz = 9 from rfl, Nat.mul_one, Nat.add_zero] at hf13_5); have hx13_6 := hcc13 6 _ rfl; (try simp only [show (k76).sz = 9 from rfl, Nat.mul_one, Nat.add_zero] at hx13_6); have hf13_6 := hfr13 6; (try simp only [show (k76).sz = 9 from rfl, Nat.mul_one, Nat.add_zero] at hf13_6); have hx13_7 := hcc13 7 _ rfl; (try simp only [show (k76).sz = 9 from rfl, Nat.mul_one, Nat.add_zero] at hx13_7); have hf13_7 := hfr13 7; (try simp only [show (k76).sz = 9 from rfl, Nat.mul_one, Nat.add_zero] at hf13_7); have hx13_8 := hcc13 8 _ rfl; (try simp only [show (k76).sz = 9 from rfl, Nat.mul_one, Nat.add_zero] at hx13_8); have hf13_8 := hfr13 8; (try simp only [show (k76).sz = 9 from rfl, Nat.mul_one, Nat.add_zero] at hf13_8); clear hcl13 hcc13 hfr13 hM13) | ((with_reducible refine gate_store (t := 76) (p := 14) rfl ?_); refine store_event (t := 76) (p := 14) (v := ?vo_w14) (w1 := (((((((((w11.setCell ⟨go7, (a1 : Int).toNat * 9, none⟩ (.int .i64 a2_0)).setCell ⟨go7, (a1 : Int).toNat * 9 + 1, none⟩ (.int .i64 a2_1)).setCell ⟨go7, (a1 : Int).toNat * 9 + 2, none⟩ (.int .i64 a2_2)).setCell ⟨go7, (a1 : Int).toNat * 9 + 3, none⟩ (.slice A2_3 l2_3.length c2_3)).setCell ⟨go7, (a1 : Int).toNat * 9 + 4, none⟩ (.int .i64 a2_4)).setCell ⟨go7, (a1 : Int).toNat * 9 + 5, none⟩ (.int .i64 a2_5)).setCell ⟨go7, (a1 : Int).toNat * 9 + 6, none⟩ (.slice A2_6 l2_6.length c2_6)).setCell ⟨go7, (a1 : Int).toNat * 9 + 7, none⟩ (.int .i64 a2_7)).setCell ⟨go7, (a1 : Int).toNat * 9 + 8, none⟩ (.int .i64 a2_8))) ?hg ?ho ?hn ?hr ?_; (case ho => rfl); (case hg => rfl); (case hn => rfl); (case hr => (go_simp; done)); intro w14 hw; have hg : w11.grownBy w14 (some go7) := (by rw [hw]; exact HP13.2); have hp_ : Kd.N k76 76 w14 w.heap.size (fun k_ => ((P0_ k_ ∨ P2_3_ k_ ∨ P2_6_ k_) ∨ w.heap.size ≤ k_) ∧ k_ ≠ gb150) (.slice (some ⟨go7, 0, none⟩) y154.length co7) y157 := (by rw [hw, Ny157.out]; exact HP13.1); clear HP13; have n0_ := Aside0.mk (Kd.V_afterv (v := (.slice (some ⟨go7, 0, none⟩) y154.length co7)) (v1 := (.slice (some ⟨go7, 0, none⟩) y154.length co7)) (ok := (fun k_ => ((P0_ k_ ∨ P2_3_ k_ ∨ P2_6_ k_) ∨ w.heap.size ≤ k_) ∧ k_ ≠ gb150)) HO0.out hg (.inl rfl)); have n1_ := Aside0.mk (Kd.V_afterv (v := (.slice (some ⟨go7, 0, none⟩) y154.length co7)) (v1 := (.slice (some ⟨go7, 0, none⟩) y154.length co7)) (ok := (fun k_ => ((P0_ k_ ∨ P2_3_ k_ ∨ P2_6_ k_) ∨ w.heap.size ≤ k_) ∧ k_ ≠ gb150)) HO2_3.out hg (.inl rfl)); have n2_ := Aside0.mk (Kd.V_afterv (v := (.slice (some ⟨go7, 0, none⟩) y154.length co7)) (v1 := (.slice (some ⟨go7, 0, none⟩) y154.length co7)) (ok := (fun k_ => ((P0_ k_ ∨ P2_3_ k_ ∨ P2_6_ k_) ∨ w.heap.size ≤ k_) ∧ k_ ≠ gb150)) HO2_6.out hg (.inl rfl)); have n3_ := Aside0.mk (blk_grown BK150.out hg (Kd.N_away HO156.out (fun _ hk => hk.2))); have n4_ := Aside0.mk (hp_); have n5_ := Aside0.mk ((by rw [hw]; exact below_set (below_set (below_set (below_set (below_set (below_set (below_set (below_set (below_set (HB.out) GB7.out) GB7.out) GB7.out) GB7.out) GB7.out) GB7.out) GB7.out) GB7.out) GB7.out : Below w.heap.size w w14)); clear HO0 HO2_3 HO2_6 BK150 HO156 HB; have HO0 := n0_; have HO2_3 := n1_; have HO2_6 := n2_; have BK150 := n3_; have HO156 := n4_; have HB := n5_; clear n0_ n1_ n2_ n3_ n4_ n5_; clear hg hw hp_))
        go_ret
        exact ⟨_, by rfl, by exact Kd.N_mono HO156.out (fun _ hk => hk.1), by repeat ((with_reducible (exact HB.out)))⟩
      · rw [if_neg c6] at H
        exact absurd H (by simp)
    · rw [if_neg c5] at H
      exact absurd H (by simp)
  · rw [if_neg c4] at H
    exact absurd H (by simp)

/-! ### port_Send: function 28 -/
def port_Send.j0 : Nat → List (S76) → Int → Int → Int → Bool → Option ((List (S76)) × Int)
  | 0, _, _, _, _, _ => none
  | k + 1, x0, x1, x2, x3, x18 => if x18 = true then (some (x0, 4)) else (if 0 ≤ x2 then (if x2 < (x0.length : Int) then (if ((rd_T76 x0 x2).f0.f0) = x1 then ((ring_Push.f ((rd_T76 x0 x2).f1.f0) ((rd_T76 x0 x2).f1.f1) ((rd_T76 x0 x2).f1.f2) x3).bind fun bt162 => (if bt162.2.2.2 = 0 then ((port_with.f x0 x2 ((rd_T76 x0 x2).f0.f0) ((rd_T76 x0 x2).f0.f1) ((rd_T76 x0 x2).f0.f2) bt162.1 bt162.2.1 bt162.2.2.1 ((rd_T76 x0 x2).f2.f0) ((rd_T76 x0 x2).f2.f1) ((rd_T76 x0 x2).f2.f2)).bind fun t169 => (some (t169, 0))) else (some (x0, bt162.2.2.2)))) else (some (x0, 7))) else (none)) else (none))
def port_Send.f (k : Nat) (l0 : List (S76)) (a1 : Int) (a2 : Int) (a3 : Int) : Option ((List (S76)) × Int) := (port_Right.f k l0).bind fun t158 => (if t158 = true then (if a2 < 0 then (port_Send.j0 k l0 a1 a2 a3 true) else (port_Send.j0 k l0 a1 a2 a3 (decide (a2 ≥ (l0.length : Int))))) else (some (l0, 1)))
theorem port_Send.mono_l : ∀ k, (∀ y0 y1 y2 y3 y4, LeO (port_Send.j0 k y0 y1 y2 y3 y4) (port_Send.j0 (k + 1) y0 y1 y2 y3 y4))
  | 0 => fun _ _ _ _ _ r h => by simp [port_Send.j0] at h
  | k + 1 => by
    have ih0 := port_Send.mono_l k
    · intro y0 y1 y2 y3 y4
      unfold port_Send.j0
      repeat' (with_reducible exact LeO.refl _)
theorem port_Send.mono : ∀ a0 a1 a2 a3 k, LeO (port_Send.f k a0 a1 a2 a3) (port_Send.f (k + 1) a0 a1 a2 a3) := by
  intro a0 a1 a2 a3 k
  have ih0 := port_Send.mono_l k
  unfold port_Send.f
  repeat' first | (with_reducible exact ih0 _ _ _ _ _) | (with_reducible exact port_Right.mono _ _) | (with_reducible exact LeO.refl _) | (with_reducible refine LeO.ite ?_ ?_) | (with_reducible refine LeO.bind ?_ (fun _ => ?_))
set_option maxHeartbeats 8000000 in
set_option maxRecDepth 100000 in
theorem port_Send.calls (k : Nat) (P0_ : Nat → Prop) (A0 : Option Addr) (c0 : Nat) (l0 : List (S76)) (a1 : Int) (a2 : Int) (a3 : Int) (r1 : List (S76)) (r2 : Int) (w : World) (hs0 : Kd.V k76 76 w w.heap.size (fun k_ => P0_ k_) (.slice A0 l0.length c0) l0) (h : port_Send.f k l0 a1 a2 a3 = some (r1, r2)) :
    Calls Try.prog 28 #[.slice A0 l0.length c0, .int .i64 a1, .int .i64 a2, .int .i64 a3] w fun e w' => ∃ v0_ : Value, e = .returned (.tuple #[v0_, .int .i64 r2]) ∧ Kd.V k76 76 w' w.heap.size (fun k_ => (P0_ k_ ∨ w.heap.size ≤ k_)) v0_ r1 ∧ Below w.heap.size w w' := by
  have hu76 := Try.underlying76
  have hu24 := Try.underlying24
  have HO0 := Aside0.mk (show Kd.V k76 76 w w.heap.size (fun k_ => (P0_ k_ ∨ w.heap.size ≤ k_)) (.slice A0 l0.length c0) l0 from Kd.V_mono hs0 (fun k_ hk => .inl hk))
  have HB := Aside0.mk (Below.refl w.heap.size w)
  have H : ((port_Right.f k l0).bind fun t158 => (if t158 = true then (if a2 < 0 then (port_Send.j0 k l0 a1 a2 a3 true) else (port_Send.j0 k l0 a1 a2 a3 (decide (a2 ≥ (l0.length : Int))))) else (some (l0, 1)))) = some (r1, r2) := h
  clear h
  replace H := Option.bind_eq_some_iff.mp H
  obtain ⟨t158, A50, H⟩ := H
  replace H : (if t158 = true then (if a2 < 0 then (port_Send.j0 k l0 a1 a2 a3 true) else (port_Send.j0 k l0 a1 a2 a3 (decide (a2 ≥ (l0.length : Int))))) else (some (l0, 1))) = some (r1, r2) := H
  have A5 := Aside0.mk A50
  clear A50
  by_cases c6 : t158 = true
  · subst c6
    have H1 : (if a2 < 0 then (port_Send.j0 k l0 a1 a2 a3 true) else (port_Send.j0 k l0 a1 a2 a3 (decide (a2 ≥ (l0.length : Int))))) = some (r1, r2) := by rw [if_pos rfl] at H; exact H
    clear H
    have H := H1
    clear H1
    have HC7 := Aside0.mk H
    clear H
    go_enter Try.func28, Try.ntmps28
    go_upto_region 3 with (((with_reducible refine gate_callee (f := 31) rfl ?_); refine goesL_ (some 15) rfl rfl Try.func31 (by kernel_rfl) rfl #[.slice A0 l0.length c0] rfl (by (try simp only [List.map_toArray, List.map_cons, List.map_nil]); rfl) ?_; (with_reducible refine (port_Right.calls k _ _ l0 true _ ?side1 ?side2 A5.out).mono ?_); (case side1 => repeat ((exact (Kd.V_reads' HO0.out).2.2))); (case side2 => exact (Kd.V_reads' HO0.out).2.1); rintro e w8 ⟨rfl, hb⟩; refine ⟨_, rfl, ?_⟩; replace HO0 := vb_ HO0 hb; replace HB := hb_ HB hb; (try clear hb); (try clear hb2); (try clear hk); (try clear hi)))
    (try simp only [Act.put, List.setIfInBounds_toArray, List.set_cons_zero, List.set_cons_succ])
    go_cut [18] (fun v18 wc => ∃ (kq : Nat) (x18_6 : Bool), v18 = .bool x18_6 ∧ Aside0 (port_Send.j0 kq l0 a1 a2 a3 x18_6 = some (r1, r2)) ∧ Aside0 (kq ≤ k) ∧ Aside0 (Kd.V k76 76 wc w.heap.size (fun k_ => (P0_ k_ ∨ w.heap.size ≤ k_)) (.slice A0 l0.length c0) l0) ∧ Aside0 (Below w.heap.size w wc))
    case first =>
      have H := HC7.out
      clear HC7
      by_cases c9 : a2 < 0
      · rw [if_pos c9] at H
        have c9b0 : decide (a2 < 0) = true := decide_eq_true c9
        clear c9
        (skip)
        have H' := Aside0.mk H
        clear H
        go_wp2
        go_meet
        case rel => exact ⟨_, (true), (by rfl), H', ⟨by omega⟩, ⟨HO0.out⟩, ⟨HB.out⟩⟩
      · rw [if_neg c9] at H
        have c9b0 : decide (a2 < 0) = false := decide_eq_false c9
        clear c9
        (skip)
        have H' := Aside0.mk H
        clear H
        go_wp2
        go_meet
        case rel => exact ⟨_, (decide (a2 ≥ (l0.length : Int))), (by rfl), H', ⟨by omega⟩, ⟨HO0.out⟩, ⟨HB.out⟩⟩
    case rest =>
      clear HC7
      try clear c2
      try clear p2
      try clear c3
      try clear c6
      try clear c9
      try clear c9b0
      obtain ⟨kq, x18_6, rfl, HA, HJ6, HO_0, HB⟩ := hcut
      cases kq with
      | zero => exact absurd HA.out (by simp [port_Send.j0])
      | succ kj6 =>
        have H := HA.out
        clear HA
        simp only [port_Send.j0] at H
        by_cases c10 : x18_6 = true
        · subst c10
          have H1 : (some (l0, 4)) = some (r1, r2) := by rw [if_pos rfl] at H; exact H
          clear H
          have H := H1
          clear H1
          simp only [Option.some.injEq, Prod.mk.injEq] at H
          obtain ⟨rfl, rfl⟩ := H
          go_wp2
          go_ret2
          exact ⟨_, by rfl, by exact HO_0.out, by repeat ((with_reducible (exact HB.out)))⟩
        · replace c10 := Bool.eq_false_iff.mpr c10
          subst c10
          have H1 : (if 0 ≤ a2 then (if a2 < (l0.length : Int) then (if ((rd_T76 l0 a2).f0.f0) = a1 then ((ring_Push.f ((rd_T76 l0 a2).f1.f0) ((rd_T76 l0 a2).f1.f1) ((rd_T76 l0 a2).f1.f2) a3).bind fun bt162 => (if bt162.2.2.2 = 0 then ((port_with.f l0 a2 ((rd_T76 l0 a2).f0.f0) ((rd_T76 l0 a2).f0.f1) ((rd_T76 l0 a2).f0.f2) bt162.1 bt162.2.1 bt162.2.2.1 ((rd_T76 l0 a2).f2.f0) ((rd_T76 l0 a2).f2.f1) ((rd_T76 l0 a2).f2.f2)).bind fun t169 => (some (t169, 0))) else (some (l0, bt162.2.2.2)))) else (some (l0, 7))) else (none)) else (none)) = some (r1, r2) := by rw [if_neg (show ¬ (false = true) by decide)] at H; exact H
          clear H
          have H := H1
          clear H1
          by_cases c11 : 0 ≤ a2
          · rw [if_pos c11] at H
            have c11b0 : decide (0 ≤ a2) = true := decide_eq_true c11
            clear c11
            by_cases c12 : a2 < (l0.length : Int)
            · rw [if_pos c12] at H
              have c12b0 : decide (a2 < (l0.length : Int)) = true := decide_eq_true c12
              clear c12
              by_cases c13 : ((rd_T76 l0 a2).f0.f0) = a1
              · rw [if_pos c13] at H
                have c13b0 : (((rd_T76 l0 a2).f0.f0) == a1) = true := beq_iff_eq.mpr c13
                have c13b1 : (((rd_T76 l0 a2).f0.f0) != a1) = false := bne_eq_false_iff_eq.mpr c13
                clear c13
                replace H := Option.bind_eq_some_iff.mp H
                obtain ⟨⟨t162, t165, t166, t167⟩, A140, H⟩ := H
                replace H : (if t167 = 0 then ((port_with.f l0 a2 ((rd_T76 l0 a2).f0.f0) ((rd_T76 l0 a2).f0.f1) ((rd_T76 l0 a2).f0.f2) t162 t165 t166 ((rd_T76 l0 a2).f2.f0) ((rd_T76 l0 a2).f2.f1) ((rd_T76 l0 a2).f2.f2)).bind fun t169 => (some (t169, 0))) else (some (l0, t167))) = some (r1, r2) := H
                have A14 := Aside0.mk A140
                clear A140
                by_cases c15 : t167 = 0
                · rw [if_pos c15] at H
                  have c15b0 : (t167 == 0) = true := beq_iff_eq.mpr c15
                  have c15b1 : (t167 != 0) = false := bne_eq_false_iff_eq.mpr c15
                  clear c15
                  replace H := Option.bind_eq_some_iff.mp H
                  obtain ⟨t169, A160, H⟩ := H
                  replace H : (some (t169, 0)) = some (r1, r2) := H
                  have A16 := Aside0.mk A160
                  clear A160
                  simp only [Option.some.injEq, Prod.mk.injEq] at H
                  obtain ⟨rfl, rfl⟩ := H
                  have p159 : 0 ≤ (a2 : Int) := of_decide_eq_true (by (with_reducible assumption))
                  have q159 : a2 < (l0.length : Int) := of_decide_eq_true (by (with_reducible assumption))
                  obtain ⟨ad159, A159_3, c159_3, A159_6, c159_6, e159, hx159_0, hx159_1, hx159_2, hx159_3, hx159_4, hx159_5, hx159_6, hx159_7, hx159_8, hl159_3, hi159_3, hl159_6, hi159_6⟩ := at_T76 (Kd.V_reads' HO_0.out).2.2 a2 p159 q159
                  cases e159
                  obtain ⟨ce159, hce159, hMe159, hcc159⟩ := Kd.V_get HO_0.out z76 a2 p159 q159
                  obtain ⟨ua159_3, uc159_3, ua159_6, uc159_6, rfl, ul159_3, ge159_3, ul159_6, ge159_6⟩ := k76_openF hMe159
                  have hv159_3 := hcc159 3 _ rfl
                  rw [add_field _ _ 3 (by omega)] at hv159_3
                  replace hv159_3 := Option.some.inj (hv159_3.symm.trans hx159_3)
                  injection hv159_3 with hva_ hvn_ hvc_
                  rw [hva_] at ge159_3
                  rw [hvc_] at ul159_3
                  have HL159_3 := Aside0.mk (show Kd.V (Kd.int .i64) 3 _ w.heap.size _ _ ((rd_T76 l0 a2).f1.f0) from Kd.V_mk ul159_3 ge159_3)
                  clear hva_ hvn_ hvc_ ge159_3 ul159_3
                  have hv159_6 := hcc159 6 _ rfl
                  rw [add_field _ _ 6 (by omega)] at hv159_6
                  replace hv159_6 := Option.some.inj (hv159_6.symm.trans hx159_6)
                  injection hv159_6 with hva_ hvn_ hvc_
                  rw [hva_] at ge159_6
                  rw [hvc_] at ul159_6
                  have HL159_6 := Aside0.mk (show Kd.V (Kd.int .i64) 3 _ w.heap.size _ _ ((rd_T76 l0 a2).f2.f0) from Kd.V_mk ul159_6 ge159_6)
                  clear hva_ hvn_ hvc_ ge159_6 ul159_6
                  clear hcc159 hce159
                  have HR159_3 := Aside0.mk hi159_3
                  have HC159_3 := Aside0.mk hl159_3
                  clear hi159_3 hl159_3
                  have HR159_6 := Aside0.mk hi159_6
                  have HC159_6 := Aside0.mk hl159_6
                  clear hi159_6 hl159_6
                  replace p159 := eq_true p159
                  replace q159 := eq_true q159
                  have p160 : 0 ≤ (a2 : Int) := of_decide_eq_true (by (with_reducible assumption))
                  have q160 : a2 < (l0.length : Int) := of_decide_eq_true (by (with_reducible assumption))
                  obtain ⟨ad160, A160_3, c160_3, A160_6, c160_6, e160, hx160_0, hx160_1, hx160_2, hx160_3, hx160_4, hx160_5, hx160_6, hx160_7, hx160_8, hl160_3, hi160_3, hl160_6, hi160_6⟩ := at_T76 (Kd.V_reads' HO_0.out).2.2 a2 p160 q160
                  obtain rfl : ad159 = ad160 := (by injection e160)
                  obtain ⟨ce160, hce160, hMe160, hcc160⟩ := Kd.V_get HO_0.out z76 a2 p160 q160
                  obtain ⟨ua160_3, uc160_3, ua160_6, uc160_6, rfl, ul160_3, ge160_3, ul160_6, ge160_6⟩ := k76_openF hMe160
                  have hv160_3 := hcc160 3 _ rfl
                  rw [add_field _ _ 3 (by omega)] at hv160_3
                  replace hv160_3 := Option.some.inj (hv160_3.symm.trans hx160_3)
                  injection hv160_3 with hva_ hvn_ hvc_
                  rw [hva_] at ge160_3
                  rw [hvc_] at ul160_3
                  have HL160_3 := Aside0.mk (show Kd.V (Kd.int .i64) 3 _ w.heap.size _ _ ((rd_T76 l0 a2).f1.f0) from Kd.V_mk ul160_3 ge160_3)
                  clear hva_ hvn_ hvc_ ge160_3 ul160_3
                  have hv160_6 := hcc160 6 _ rfl
                  rw [add_field _ _ 6 (by omega)] at hv160_6
                  replace hv160_6 := Option.some.inj (hv160_6.symm.trans hx160_6)
                  injection hv160_6 with hva_ hvn_ hvc_
                  rw [hva_] at ge160_6
                  rw [hvc_] at ul160_6
                  have HL160_6 := Aside0.mk (show Kd.V (Kd.int .i64) 3 _ w.heap.size _ _ ((rd_T76 l0 a2).f2.f0) from Kd.V_mk ul160_6 ge160_6)
                  clear hva_ hvn_ hvc_ ge160_6 ul160_6
                  clear hcc160 hce160
                  have HR160_3 := Aside0.mk hi160_3
                  have HC160_3 := Aside0.mk hl160_3
                  clear hi160_3 hl160_3
                  have HR160_6 := Aside0.mk hi160_6
                  have HC160_6 := Aside0.mk hl160_6
                  clear hi160_6 hl160_6
                  replace p160 := eq_true p160
                  replace q160 := eq_true q160
                  have ea_ := Option.some.inj (hx159_3.symm.trans hx160_3)
                  injection ea_ with ea_ en_ ec_
                  subst ea_
                  subst ec_
                  clear en_
                  have ea_ := Option.some.inj (hx159_6.symm.trans hx160_6)
                  injection ea_ with ea_ en_ ec_
                  subst ea_
                  subst ec_
                  clear en_
                  go_wp2_with (first | ((with_reducible refine gate_dst (N := 10) rfl ?_); (try (refine gate_guard (by rfl) ?_; dsimp only)); refine box_event ?hg (N := 10) ?hd (cs := #[.int .i64 0, .int .i64 0, .int .i64 0, .slice none 0 0, .int .i64 0, .int .i64 0, .slice none 0 0, .int .i64 0, .int .i64 0]) (t := 76) ?hr ?_; (case hd => rfl); (case hg => rfl); (case hr => (go_simp; done)); intro gb161 hg w17 hbox hb; have n0_ := Aside0.mk (Kd.V_below (Kd.V_elderB HO_0.out gb161 (Nat.le_of_eq hg.symm)) hb); have n1_ := Aside0.mk (Kd.V_below (Kd.V_elderB HL159_3.out gb161 (Nat.le_of_eq hg.symm)) hb); have n2_ := Aside0.mk (Kd.V_below (Kd.V_elderB HL159_6.out gb161 (Nat.le_of_eq hg.symm)) hb); have n3_ := Aside0.mk (Kd.V_below (Kd.V_elderB HL160_3.out gb161 (Nat.le_of_eq hg.symm)) hb); have n4_ := Aside0.mk (Kd.V_below (Kd.V_elderB HL160_6.out gb161 (Nat.le_of_eq hg.symm)) hb); have n5_ := Aside0.mk (Kd.C_below (by (exact (Kd.V_reads' HL159_3.out).2.2)) hb); have n6_ := Aside0.mk (Kd.C_below (by (exact (Kd.V_reads' HL159_6.out).2.2)) hb); have n7_ := Aside0.mk (Kd.C_below (by (exact (Kd.V_reads' HL160_3.out).2.2)) hb); have n8_ := Aside0.mk (Kd.C_below (by (exact (Kd.V_reads' HL160_6.out).2.2)) hb); have n10_ := Aside0.mk (hbox); have n11_ := Aside0.mk ((by rw [hg]; exact (below_size HB.out) : w.heap.size ≤ gb161)); have n12_ := Aside0.mk ((by rw [hg]; exact (below_size HB.out) : w.heap.size ≤ gb161)); clear HO_0 HL159_3 HL159_6 HL160_3 HL160_6 HR159_3 HR159_6 HR160_3 HR160_6; have HO_0 := n0_; have HL159_3 := n1_; have HL159_6 := n2_; have HL160_3 := n3_; have HL160_6 := n4_; have HR159_3 := n5_; have HR159_6 := n6_; have HR160_3 := n7_; have HR160_6 := n8_; have BK161 := n10_; have GW161 := n11_; have GE161 := n12_; clear n0_ n1_ n2_ n3_ n4_ n5_ n6_ n7_ n8_ n10_ n11_ n12_; replace HB := hb_ HB hb; clear hb hbox hg; obtain ⟨_, _, _, _, _, _, _, _, _, _, _, _, _, _, _, _, _, _⟩ := bk9_ BK161.out) | ((with_reducible refine gate_store (t := 76) (p := 10) rfl ?_); refine store_event (t := 76) (p := 10) (v := ?vo_w19) (w1 := (((((((((w17.setCell ⟨gb161, 0, none⟩ (.int .i64 ((rd_T76 l0 a2).f0.f0))).setCell ⟨gb161, 1, none⟩ (.int .i64 ((rd_T76 l0 a2).f0.f1))).setCell ⟨gb161, 2, none⟩ (.int .i64 ((rd_T76 l0 a2).f0.f2))).setCell ⟨gb161, 3, none⟩ (.slice A159_3 ((rd_T76 l0 a2).f1.f0).length c159_3)).setCell ⟨gb161, 4, none⟩ (.int .i64 ((rd_T76 l0 a2).f1.f1))).setCell ⟨gb161, 5, none⟩ (.int .i64 ((rd_T76 l0 a2).f1.f2))).setCell ⟨gb161, 6, none⟩ (.slice A159_6 ((rd_T76 l0 a2).f2.f0).length c159_6)).setCell ⟨gb161, 7, none⟩ (.int .i64 ((rd_T76 l0 a2).f2.f1))).setCell ⟨gb161, 8, none⟩ (.int .i64 ((rd_T76 l0 a2).f2.f2)))) ?hg ?ho ?hn ?hr ?_; (case ho => rfl); (case hg => rfl); (case hn => rfl); (case hr => (go_simp; done)); intro w19 hw; have n0_ : Aside0 (Kd.V k76 76 w19 w.heap.size (fun k_ => (P0_ k_ ∨ w.heap.size ≤ k_) ∧ k_ ≠ gb161) (.slice (some ad159) l0.length c0) l0) := ⟨(by rw [hw]; exact (by exact Kd.V_mono (vf9_ (Kd.V_mono HO_0.out (fun k_ hk => (⟨hk, hk.2⟩ : _ ∧ k_ ≠ gb161))) (fun _ hk => hk.2)) (fun _ hk => ⟨hk.1.1, hk.1.2⟩)))⟩; have n1_ : Aside0 (Kd.V (Kd.int .i64) 3 w19 w.heap.size (fun k_ => (P0_ k_ ∨ w.heap.size ≤ k_) ∧ k_ ≠ gb161) (.slice A159_3 ((rd_T76 l0 a2).f1.f0).length c159_3) ((rd_T76 l0 a2).f1.f0)) := ⟨(by rw [hw]; exact (by exact Kd.V_mono (vf9_ (Kd.V_mono HL159_3.out (fun k_ hk => (⟨hk, hk.2⟩ : _ ∧ k_ ≠ gb161))) (fun _ hk => hk.2)) (fun _ hk => ⟨hk.1.1, hk.1.2⟩)))⟩; have n2_ : Aside0 (Kd.V (Kd.int .i64) 3 w19 w.heap.size (fun k_ => (P0_ k_ ∨ w.heap.size ≤ k_) ∧ k_ ≠ gb161) (.slice A159_6 ((rd_T76 l0 a2).f2.f0).length c159_6) ((rd_T76 l0 a2).f2.f0)) := ⟨(by rw [hw]; exact (by exact Kd.V_mono (vf9_ (Kd.V_mono HL159_6.out (fun k_ hk => (⟨hk, hk.2⟩ : _ ∧ k_ ≠ gb161))) (fun _ hk => hk.2)) (fun _ hk => ⟨hk.1.1, hk.1.2⟩)))⟩; have n3_ : Aside0 (Kd.V (Kd.int .i64) 3 w19 w.heap.size (fun k_ => (P0_ k_ ∨ w.heap.size ≤ k_) ∧ k_ ≠ gb161) (.slice A159_3 ((rd_T76 l0 a2).f1.f0).length c159_3) ((rd_T76 l0 a2).f1.f0)) := ⟨(by rw [hw]; exact (by exact Kd.V_mono (vf9_ (Kd.V_mono HL160_3.out (fun k_ hk => (⟨hk, hk.2⟩ : _ ∧ k_ ≠ gb161))) (fun _ hk => hk.2)) (fun _ hk => ⟨hk.1.1, hk.1.2⟩)))⟩; have n4_ : Aside0 (Kd.V (Kd.int .i64) 3 w19 w.heap.size (fun k_ => (P0_ k_ ∨ w.heap.size ≤ k_) ∧ k_ ≠ gb161) (.slice A159_6 ((rd_T76 l0 a2).f2.f0).length c159_6) ((rd_T76 l0 a2).f2.f0)) := ⟨(by rw [hw]; exact (by exact Kd.V_mono (vf9_ (Kd.V_mono HL160_6.out (fun k_ hk => (⟨hk, hk.2⟩ : _ ∧ k_ ≠ gb161))) (fun _ hk => hk.2)) (fun _ hk => ⟨hk.1.1, hk.1.2⟩)))⟩; have n5_ : Aside0 (w19.heap[gb161]? = some (.cells #[.int .i64 ((rd_T76 l0 a2).f0.f0), .int .i64 ((rd_T76 l0 a2).f0.f1), .int .i64 ((rd_T76 l0 a2).f0.f2), .slice A159_3 ((rd_T76 l0 a2).f1.f0).length c159_3, .int .i64 ((rd_T76 l0 a2).f1.f1), .int .i64 ((rd_T76 l0 a2).f1.f2), .slice A159_6 ((rd_T76 l0 a2).f2.f0).length c159_6, .int .i64 ((rd_T76 l0 a2).f2.f1), .int .i64 ((rd_T76 l0 a2).f2.f2)] 76 (0, 0))) := ⟨(by rw [hw]; exact (by exact bp9_ BK161.out))⟩; have n6_ : Aside0 (Below w.heap.size w w19) := ⟨(by rw [hw]; exact (by repeat ((with_reducible first | exact HB.out | refine below_set ?_ GE161.out))))⟩; clear hw; clear HO_0; clear HL159_3; clear HL159_6; clear HL160_3; clear HL160_6; clear BK161; clear HB; have HO_0 := n0_; have HL159_3 := n1_; have HL159_6 := n2_; have HL160_3 := n3_; have HL160_6 := n4_; have BK161 := n5_; have HB := n6_; clear n0_ n1_ n2_ n3_ n4_ n5_ n6_; obtain ⟨_, _, _, _, _, _, _, _, _, _, _, _, _, _, _, _, _, _⟩ := bk9_ BK161.out) | ((with_reducible refine gate_callee (f := 21) rfl ?_); refine goesL_ (some 46) rfl rfl Try.func21 (by kernel_rfl) rfl #[.agg #[.slice A159_3 ((rd_T76 l0 a2).f1.f0).length c159_3, .int .i64 ((rd_T76 l0 a2).f1.f1), .int .i64 ((rd_T76 l0 a2).f1.f2)], .int .i64 a3] rfl (by (try simp only [List.map_toArray, List.map_cons, List.map_nil]); rfl) ?_; (with_reducible refine (ring_Push.calls (fun k_ => ((P0_ k_ ∨ w.heap.size ≤ k_) ∧ k_ ≠ gb161)) _ _ ((rd_T76 l0 a2).f1.f0) ((rd_T76 l0 a2).f1.f1) ((rd_T76 l0 a2).f1.f2) a3 t162 t165 t166 t167 _ ?side1 A14.out).mono ?_); (case side1 => exact HL160_3.out); rintro e w21 ⟨v163, rfl, ho0, hb⟩; refine ⟨_, rfl, ?_⟩; have n5_ := Aside0.mk (Kd.V_lower (Kd.V_mono (ok' := fun k_ => (P0_ k_ ∨ w.heap.size ≤ k_) ∧ k_ ≠ gb161) ho0 (fun k_ hk_ => ⟨Or.elim hk_ (fun hs_ => hs_.1) (fun hn_ => (.inr (Nat.le_trans (below_size HB.out) hn_))), Or.elim hk_ (fun hs_ => hs_.2) (fun hn_ => (Kd.freshB BK161.out k_ hn_))⟩)) (below_size HB.out)); have n6_ := Aside0.mk (Kd.C_below (by (exact (Kd.V_reads' HL159_3.out).2.2)) hb); have n7_ := Aside0.mk (Kd.C_below (by (exact (Kd.V_reads' HL159_6.out).2.2)) hb); have n8_ := Aside0.mk (Kd.C_below (by (exact (Kd.V_reads' HL160_3.out).2.2)) hb); have n9_ := Aside0.mk (Kd.C_below (by (exact (Kd.V_reads' HL160_6.out).2.2)) hb); clear HR159_3 HR159_6 HR160_3 HR160_6; have HO164 := n5_; have HR159_3 := n6_; have HR159_6 := n7_; have HR160_3 := n8_; have HR160_6 := n9_; clear n5_ n6_ n7_ n8_ n9_; replace HO_0 := vb_ HO_0 hb; replace HL159_3 := vb_ HL159_3 hb; replace HL159_6 := vb_ HL159_6 hb; replace HL160_3 := vb_ HL160_3 hb; replace HL160_6 := vb_ HL160_6 hb; replace BK161 := kb_ BK161 hb; replace HB := hb_ HB hb; (try clear hb); (try clear hb2); (try clear hk); (try clear hi); (try clear ho0)) | ((with_reducible refine gate_dst (N := 11) rfl ?_); (try (refine gate_guard (by rfl) ?_; dsimp only)); refine box_event ?hg (N := 11) ?hd (cs := #[.slice none 0 0, .int .i64 0, .int .i64 0]) (t := 24) ?hr ?_; (case hd => rfl); (case hg => rfl); (case hr => (go_simp; done)); intro gb168 hg w22 hbox hb; have n0_ := Aside0.mk (Kd.V_below (Kd.V_elderB HO_0.out gb168 (Nat.le_of_eq hg.symm)) hb); have n1_ := Aside0.mk (Kd.V_below (Kd.V_elderB HL159_3.out gb168 (Nat.le_of_eq hg.symm)) hb); have n2_ := Aside0.mk (Kd.V_below (Kd.V_elderB HL159_6.out gb168 (Nat.le_of_eq hg.symm)) hb); have n3_ := Aside0.mk (Kd.V_below (Kd.V_elderB HL160_3.out gb168 (Nat.le_of_eq hg.symm)) hb); have n4_ := Aside0.mk (Kd.V_below (Kd.V_elderB HL160_6.out gb168 (Nat.le_of_eq hg.symm)) hb); have n5_ := Aside0.mk (Kd.V_below (Kd.V_elderB HO164.out gb168 (Nat.le_of_eq hg.symm)) hb); have n6_ := Aside0.mk (Kd.C_below (by (exact (Kd.V_reads' HL159_3.out).2.2)) hb); have n7_ := Aside0.mk (Kd.C_below (by (exact (Kd.V_reads' HL159_6.out).2.2)) hb); have n8_ := Aside0.mk (Kd.C_below (by (exact (Kd.V_reads' HL160_3.out).2.2)) hb); have n9_ := Aside0.mk (Kd.C_below (by (exact (Kd.V_reads' HL160_6.out).2.2)) hb); have n12_ := Aside0.mk (hbox); have n13_ := Aside0.mk ((by rw [hg]; exact (below_size HB.out) : w.heap.size ≤ gb168)); have n14_ := Aside0.mk ((by rw [hg]; exact (below_size HB.out) : w.heap.size ≤ gb168)); have n15_ := Aside0.mk ((by rw [hg]; exact Nat.ne_of_lt (blk_lt BK161.out) : gb161 ≠ gb168)); have n16_ := Aside0.mk ((by rw [hg]; exact Nat.ne_of_gt (blk_lt BK161.out) : gb168 ≠ gb161)); clear HO_0 HL159_3 HL159_6 HL160_3 HL160_6 HO164 HR159_3 HR159_6 HR160_3 HR160_6; have HO_0 := n0_; have HL159_3 := n1_; have HL159_6 := n2_; have HL160_3 := n3_; have HL160_6 := n4_; have HO164 := n5_; have HR159_3 := n6_; have HR159_6 := n7_; have HR160_3 := n8_; have HR160_6 := n9_; have BK168 := n12_; have GW168 := n13_; have GE168 := n14_; have NB161_168 := n15_; have NB168_161 := n16_; clear n0_ n1_ n2_ n3_ n4_ n5_ n6_ n7_ n8_ n9_ n12_ n13_ n14_ n15_ n16_; replace BK161 := kb_ BK161 hb; replace HB := hb_ HB hb; clear hb hbox hg; obtain ⟨Ao23, co23, eo23⟩ := Kd.V_slice HO164.out; subst eo23; have hnb24 := NB168_161.out; have hnc24 := NB161_168.out; obtain ⟨_, _, _, _, _, _⟩ := bk3_ BK168.out) | ((with_reducible refine gate_store (t := 24) (p := 11) rfl ?_); refine store_event (t := 24) (p := 11) (v := ?vo_w26) (w1 := (((w22.setCell ⟨gb168, 0, none⟩ (.slice Ao23 t162.length co23)).setCell ⟨gb168, 1, none⟩ (.int .i64 t165)).setCell ⟨gb168, 2, none⟩ (.int .i64 t166))) ?hg ?ho ?hn ?hr ?_; (case ho => rfl); (case hg => rfl); (case hn => rfl); (case hr => (go_simp; done)); intro w26 hw; have n0_ : Aside0 (Kd.V k76 76 w26 w.heap.size (fun k_ => (P0_ k_ ∨ w.heap.size ≤ k_) ∧ k_ ≠ gb161 ∧ k_ ≠ gb168) (.slice (some ad159) l0.length c0) l0) := ⟨(by rw [hw]; exact (by exact Kd.V_mono (vf3_ (Kd.V_mono HO_0.out (fun k_ hk => (⟨hk, hk.2⟩ : _ ∧ k_ ≠ gb168))) (fun _ hk => hk.2)) (fun _ hk => ⟨hk.1.1.1, ⟨hk.1.1.2, hk.1.2⟩⟩)))⟩; have n1_ : Aside0 (Kd.V (Kd.int .i64) 3 w26 w.heap.size (fun k_ => (P0_ k_ ∨ w.heap.size ≤ k_) ∧ k_ ≠ gb161 ∧ k_ ≠ gb168) (.slice A159_3 ((rd_T76 l0 a2).f1.f0).length c159_3) ((rd_T76 l0 a2).f1.f0)) := ⟨(by rw [hw]; exact (by exact Kd.V_mono (vf3_ (Kd.V_mono HL159_3.out (fun k_ hk => (⟨hk, hk.2⟩ : _ ∧ k_ ≠ gb168))) (fun _ hk => hk.2)) (fun _ hk => ⟨hk.1.1.1, ⟨hk.1.1.2, hk.1.2⟩⟩)))⟩; have n2_ : Aside0 (Kd.V (Kd.int .i64) 3 w26 w.heap.size (fun k_ => (P0_ k_ ∨ w.heap.size ≤ k_) ∧ k_ ≠ gb161 ∧ k_ ≠ gb168) (.slice A159_6 ((rd_T76 l0 a2).f2.f0).length c159_6) ((rd_T76 l0 a2).f2.f0)) := ⟨(by rw [hw]; exact (by exact Kd.V_mono (vf3_ (Kd.V_mono HL159_6.out (fun k_ hk => (⟨hk, hk.2⟩ : _ ∧ k_ ≠ gb168))) (fun _ hk => hk.2)) (fun _ hk => ⟨hk.1.1.1, ⟨hk.1.1.2, hk.1.2⟩⟩)))⟩; have n3_ : Aside0 (Kd.V (Kd.int .i64) 3 w26 w.heap.size (fun k_ => (P0_ k_ ∨ w.heap.size ≤ k_) ∧ k_ ≠ gb161 ∧ k_ ≠ gb168) (.slice A159_3 ((rd_T76 l0 a2).f1.f0).length c159_3) ((rd_T76 l0 a2).f1.f0)) := ⟨(by rw [hw]; exact (by exact Kd.V_mono (vf3_ (Kd.V_mono HL160_3.out (fun k_ hk => (⟨hk, hk.2⟩ : _ ∧ k_ ≠ gb168))) (fun _ hk => hk.2)) (fun _ hk => ⟨hk.1.1.1, ⟨hk.1.1.2, hk.1.2⟩⟩)))⟩; have n4_ : Aside0 (Kd.V (Kd.int .i64) 3 w26 w.heap.size (fun k_ => (P0_ k_ ∨ w.heap.size ≤ k_) ∧ k_ ≠ gb161 ∧ k_ ≠ gb168) (.slice A159_6 ((rd_T76 l0 a2).f2.f0).length c159_6) ((rd_T76 l0 a2).f2.f0)) := ⟨(by rw [hw]; exact (by exact Kd.V_mono (vf3_ (Kd.V_mono HL160_6.out (fun k_ hk => (⟨hk, hk.2⟩ : _ ∧ k_ ≠ gb168))) (fun _ hk => hk.2)) (fun _ hk => ⟨hk.1.1.1, ⟨hk.1.1.2, hk.1.2⟩⟩)))⟩; have n5_ : Aside0 (Kd.V (Kd.int .i64) 3 w26 w.heap.size (fun k_ => (P0_ k_ ∨ w.heap.size ≤ k_) ∧ k_ ≠ gb161 ∧ k_ ≠ gb168) (.slice Ao23 t162.length co23) t162) := ⟨(by rw [hw]; exact (by exact Kd.V_mono (vf3_ (Kd.V_mono HO164.out (fun k_ hk => (⟨hk, hk.2⟩ : _ ∧ k_ ≠ gb168))) (fun _ hk => hk.2)) (fun _ hk => ⟨hk.1.1.1, ⟨hk.1.1.2, hk.1.2⟩⟩)))⟩; have n6_ : Aside0 (w26.heap[gb161]? = some (.cells #[.int .i64 ((rd_T76 l0 a2).f0.f0), .int .i64 ((rd_T76 l0 a2).f0.f1), .int .i64 ((rd_T76 l0 a2).f0.f2), .slice A159_3 ((rd_T76 l0 a2).f1.f0).length c159_3, .int .i64 ((rd_T76 l0 a2).f1.f1), .int .i64 ((rd_T76 l0 a2).f1.f2), .slice A159_6 ((rd_T76 l0 a2).f2.f0).length c159_6, .int .i64 ((rd_T76 l0 a2).f2.f1), .int .i64 ((rd_T76 l0 a2).f2.f2)] 76 (0, 0))) := ⟨(by rw [hw]; exact (by refine blk_far ?_ NB161_168.out _; refine blk_far ?_ NB161_168.out _; refine blk_far ?_ NB161_168.out _; exact BK161.out))⟩; have n7_ : Aside0 (w26.heap[gb168]? = some (.cells #[.slice Ao23 t162.length co23, .int .i64 t165, .int .i64 t166] 24 (0, 0))) := ⟨(by rw [hw]; exact (by exact bp3_ BK168.out))⟩; have n8_ : Aside0 (Below w.heap.size w w26) := ⟨(by rw [hw]; exact (by repeat ((with_reducible first | exact HB.out | refine below_set ?_ GE168.out))))⟩; clear hw; clear HO_0; clear HL159_3; clear HL159_6; clear HL160_3; clear HL160_6; clear HO164; clear BK161; clear BK168; clear HB; have HO_0 := n0_; have HL159_3 := n1_; have HL159_6 := n2_; have HL160_3 := n3_; have HL160_6 := n4_; have HO164 := n5_; have BK161 := n6_; have BK168 := n7_; have HB := n8_; clear n0_ n1_ n2_ n3_ n4_ n5_ n6_ n7_ n8_; obtain ⟨_, _, _, _, _, _⟩ := bk3_ BK168.out; obtain ⟨_, _, _, _, _, _, _, _, _, _, _, _, _, _, _, _, _, _⟩ := bk9_ BK161.out) | ((with_reducible refine gate_store (t := 24) (p := 54) rfl ?_); refine store_event (t := 24) (p := 54) (v := ?vo_w29) (w1 := (((w26.setCell ⟨gb161, 3, none⟩ (.slice Ao23 t162.length co23)).setCell ⟨gb161, 4, none⟩ (.int .i64 t165)).setCell ⟨gb161, 5, none⟩ (.int .i64 t166))) ?hg ?ho ?hn ?hr ?_; (case ho => rfl); (case hg => rfl); (case hn => rfl); (case hr => (go_simp; done)); intro w29 hw; have n0_ : Aside0 (Kd.V k76 76 w29 w.heap.size (fun k_ => (P0_ k_ ∨ w.heap.size ≤ k_) ∧ k_ ≠ gb161 ∧ k_ ≠ gb168) (.slice (some ad159) l0.length c0) l0) := ⟨(by rw [hw]; exact (by exact Kd.V_mono (Kd.V_far (p := ⟨gb161, 5, none⟩) (Kd.V_far (p := ⟨gb161, 4, none⟩) (Kd.V_far (p := ⟨gb161, 3, none⟩) (Kd.V_mono HO_0.out (fun k_ hk => (⟨hk, hk.2.1⟩ : _ ∧ k_ ≠ gb161))) (fun _ hk => hk.2) (.slice Ao23 t162.length co23)) (fun _ hk => hk.2) (.int .i64 t165)) (fun _ hk => hk.2) (.int .i64 t166)) (fun _ hk => ⟨hk.1.1, ⟨hk.1.2.1, hk.1.2.2⟩⟩)))⟩; have n1_ : Aside0 (Kd.V (Kd.int .i64) 3 w29 w.heap.size (fun k_ => (P0_ k_ ∨ w.heap.size ≤ k_) ∧ k_ ≠ gb161 ∧ k_ ≠ gb168) (.slice A159_3 ((rd_T76 l0 a2).f1.f0).length c159_3) ((rd_T76 l0 a2).f1.f0)) := ⟨(by rw [hw]; exact (by exact Kd.V_mono (Kd.V_far (p := ⟨gb161, 5, none⟩) (Kd.V_far (p := ⟨gb161, 4, none⟩) (Kd.V_far (p := ⟨gb161, 3, none⟩) (Kd.V_mono HL159_3.out (fun k_ hk => (⟨hk, hk.2.1⟩ : _ ∧ k_ ≠ gb161))) (fun _ hk => hk.2) (.slice Ao23 t162.length co23)) (fun _ hk => hk.2) (.int .i64 t165)) (fun _ hk => hk.2) (.int .i64 t166)) (fun _ hk => ⟨hk.1.1, ⟨hk.1.2.1, hk.1.2.2⟩⟩)))⟩; have n2_ : Aside0 (Kd.V (Kd.int .i64) 3 w29 w.heap.size (fun k_ => (P0_ k_ ∨ w.heap.size ≤ k_) ∧ k_ ≠ gb161 ∧ k_ ≠ gb168) (.slice A159_6 ((rd_T76 l0 a2).f2.f0).length c159_6) ((rd_T76 l0 a2).f2.f0)) := ⟨(by rw [hw]; exact (by exact Kd.V_mono (Kd.V_far (p := ⟨gb161, 5, none⟩) (Kd.V_far (p := ⟨gb161, 4, none⟩) (Kd.V_far (p := ⟨gb161, 3, none⟩) (Kd.V_mono HL159_6.out (fun k_ hk => (⟨hk, hk.2.1⟩ : _ ∧ k_ ≠ gb161))) (fun _ hk => hk.2) (.slice Ao23 t162.length co23)) (fun _ hk => hk.2) (.int .i64 t165)) (fun _ hk => hk.2) (.int .i64 t166)) (fun _ hk => ⟨hk.1.1, ⟨hk.1.2.1, hk.1.2.2⟩⟩)))⟩; have n3_ : Aside0 (Kd.V (Kd.int .i64) 3 w29 w.heap.size (fun k_ => (P0_ k_ ∨ w.heap.size ≤ k_) ∧ k_ ≠ gb161 ∧ k_ ≠ gb168) (.slice A159_3 ((rd_T76 l0 a2).f1.f0).length c159_3) ((rd_T76 l0 a2).f1.f0)) := ⟨(by rw [hw]; exact (by exact Kd.V_mono (Kd.V_far (p := ⟨gb161, 5, none⟩) (Kd.V_far (p := ⟨gb161, 4, none⟩) (Kd.V_far (p := ⟨gb161, 3, none⟩) (Kd.V_mono HL160_3.out (fun k_ hk => (⟨hk, hk.2.1⟩ : _ ∧ k_ ≠ gb161))) (fun _ hk => hk.2) (.slice Ao23 t162.length co23)) (fun _ hk => hk.2) (.int .i64 t165)) (fun _ hk => hk.2) (.int .i64 t166)) (fun _ hk => ⟨hk.1.1, ⟨hk.1.2.1, hk.1.2.2⟩⟩)))⟩; have n4_ : Aside0 (Kd.V (Kd.int .i64) 3 w29 w.heap.size (fun k_ => (P0_ k_ ∨ w.heap.size ≤ k_) ∧ k_ ≠ gb161 ∧ k_ ≠ gb168) (.slice A159_6 ((rd_T76 l0 a2).f2.f0).length c159_6) ((rd_T76 l0 a2).f2.f0)) := ⟨(by rw [hw]; exact (by exact Kd.V_mono (Kd.V_far (p := ⟨gb161, 5, none⟩) (Kd.V_far (p := ⟨gb161, 4, none⟩) (Kd.V_far (p := ⟨gb161, 3, none⟩) (Kd.V_mono HL160_6.out (fun k_ hk => (⟨hk, hk.2.1⟩ : _ ∧ k_ ≠ gb161))) (fun _ hk => hk.2) (.slice Ao23 t162.length co23)) (fun _ hk => hk.2) (.int .i64 t165)) (fun _ hk => hk.2) (.int .i64 t166)) (fun _ hk => ⟨hk.1.1, ⟨hk.1.2.1, hk.1.2.2⟩⟩)))⟩; have n5_ : Aside0 (Kd.V (Kd.int .i64) 3 w29 w.heap.size (fun k_ => (P0_ k_ ∨ w.heap.size ≤ k_) ∧ k_ ≠ gb161 ∧ k_ ≠ gb168) (.slice Ao23 t162.length co23) t162) := ⟨(by rw [hw]; exact (by exact Kd.V_mono (Kd.V_far (p := ⟨gb161, 5, none⟩) (Kd.V_far (p := ⟨gb161, 4, none⟩) (Kd.V_far (p := ⟨gb161, 3, none⟩) (Kd.V_mono HO164.out (fun k_ hk => (⟨hk, hk.2.1⟩ : _ ∧ k_ ≠ gb161))) (fun _ hk => hk.2) (.slice Ao23 t162.length co23)) (fun _ hk => hk.2) (.int .i64 t165)) (fun _ hk => hk.2) (.int .i64 t166)) (fun _ hk => ⟨hk.1.1, ⟨hk.1.2.1, hk.1.2.2⟩⟩)))⟩; have n6_ : Aside0 (w29.heap[gb161]? = some (.cells #[.int .i64 ((rd_T76 l0 a2).f0.f0), .int .i64 ((rd_T76 l0 a2).f0.f1), .int .i64 ((rd_T76 l0 a2).f0.f2), .slice Ao23 t162.length co23, .int .i64 t165, .int .i64 t166, .slice A159_6 ((rd_T76 l0 a2).f2.f0).length c159_6, .int .i64 ((rd_T76 l0 a2).f2.f1), .int .i64 ((rd_T76 l0 a2).f2.f2)] 76 (0, 0))) := ⟨(by rw [hw]; exact (by refine blk_put (cs := #[.int .i64 ((rd_T76 l0 a2).f0.f0), .int .i64 ((rd_T76 l0 a2).f0.f1), .int .i64 ((rd_T76 l0 a2).f0.f2), .slice Ao23 t162.length co23, .int .i64 t165, .int .i64 ((rd_T76 l0 a2).f1.f2), .slice A159_6 ((rd_T76 l0 a2).f2.f0).length c159_6, .int .i64 ((rd_T76 l0 a2).f2.f1), .int .i64 ((rd_T76 l0 a2).f2.f2)]) ?_ 5 _ rfl; refine blk_put (cs := #[.int .i64 ((rd_T76 l0 a2).f0.f0), .int .i64 ((rd_T76 l0 a2).f0.f1), .int .i64 ((rd_T76 l0 a2).f0.f2), .slice Ao23 t162.length co23, .int .i64 ((rd_T76 l0 a2).f1.f1), .int .i64 ((rd_T76 l0 a2).f1.f2), .slice A159_6 ((rd_T76 l0 a2).f2.f0).length c159_6, .int .i64 ((rd_T76 l0 a2).f2.f1), .int .i64 ((rd_T76 l0 a2).f2.f2)]) ?_ 4 _ rfl; refine blk_put (cs := #[.int .i64 ((rd_T76 l0 a2).f0.f0), .int .i64 ((rd_T76 l0 a2).f0.f1), .int .i64 ((rd_T76 l0 a2).f0.f2), .slice A159_3 ((rd_T76 l0 a2).f1.f0).length c159_3, .int .i64 ((rd_T76 l0 a2).f1.f1), .int .i64 ((rd_T76 l0 a2).f1.f2), .slice A159_6 ((rd_T76 l0 a2).f2.f0).length c159_6, .int .i64 ((rd_T76 l0 a2).f2.f1), .int .i64 ((rd_T76 l0 a2).f2.f2)]) ?_ 3 _ rfl; exact BK161.out))⟩; have n7_ : Aside0 (w29.heap[gb168]? = some (.cells #[.slice Ao23 t162.length co23, .int .i64 t165, .int .i64 t166] 24 (0, 0))) := ⟨(by rw [hw]; exact (by refine blk_far ?_ NB168_161.out _; refine blk_far ?_ NB168_161.out _; refine blk_far ?_ NB168_161.out _; exact BK168.out))⟩; have n8_ : Aside0 (Below w.heap.size w w29) := ⟨(by rw [hw]; exact (by repeat ((with_reducible first | exact HB.out | refine below_set ?_ GE161.out))))⟩; clear hw; clear HO_0; clear HL159_3; clear HL159_6; clear HL160_3; clear HL160_6; clear HO164; clear BK161; clear BK168; clear HB; have HO_0 := n0_; have HL159_3 := n1_; have HL159_6 := n2_; have HL160_3 := n3_; have HL160_6 := n4_; have HO164 := n5_; have BK161 := n6_; have BK168 := n7_; have HB := n8_; clear n0_ n1_ n2_ n3_ n4_ n5_ n6_ n7_ n8_; obtain ⟨_, _, _, _, _, _, _, _, _, _, _, _, _, _, _, _, _, _⟩ := bk9_ BK161.out) | ((with_reducible refine gate_callee (f := 44) rfl ?_); refine goesL_ (some 58) rfl rfl Try.func44 (by kernel_rfl) rfl #[.slice (some ad159) l0.length c0, .int .i64 a2, .agg #[.int .i64 ((rd_T76 l0 a2).f0.f0), .int .i64 ((rd_T76 l0 a2).f0.f1), .int .i64 ((rd_T76 l0 a2).f0.f2), .slice Ao23 t162.length co23, .int .i64 t165, .int .i64 t166, .slice A159_6 ((rd_T76 l0 a2).f2.f0).length c159_6, .int .i64 ((rd_T76 l0 a2).f2.f1), .int .i64 ((rd_T76 l0 a2).f2.f2)]] rfl (by (try simp only [List.map_toArray, List.map_cons, List.map_nil]); rfl) ?_; (with_reducible refine (port_with.calls (fun k_ => ((P0_ k_ ∨ w.heap.size ≤ k_) ∧ (k_ ≠ gb161 ∧ k_ ≠ gb168))) _ _ l0 a2 ((rd_T76 l0 a2).f0.f0) ((rd_T76 l0 a2).f0.f1) ((rd_T76 l0 a2).f0.f2) (fun k_ => ((P0_ k_ ∨ w.heap.size ≤ k_) ∧ (k_ ≠ gb161 ∧ k_ ≠ gb168))) _ _ t162 t165 t166 (fun k_ => ((P0_ k_ ∨ w.heap.size ≤ k_) ∧ (k_ ≠ gb161 ∧ k_ ≠ gb168))) _ _ ((rd_T76 l0 a2).f2.f0) ((rd_T76 l0 a2).f2.f1) ((rd_T76 l0 a2).f2.f2) t169 _ ?side1 ?side2 ?side3 A16.out).mono ?_); (case side1 => exact HO_0.out); (case side2 => exact HO164.out); (case side3 => exact HL160_6.out); rintro e w31 ⟨v170, rfl, ho0, hb⟩; refine ⟨_, rfl, ?_⟩; have n0_ := Aside0.mk (Kd.V_elder' HO_0.out (by (exact Kd.N_base ho0)) hb); have n1_ := Aside0.mk (Kd.V_elder' HL159_3.out (by (exact Kd.N_base ho0)) hb); have n2_ := Aside0.mk (Kd.V_elder' HL159_6.out (by (exact Kd.N_base ho0)) hb); have n3_ := Aside0.mk (Kd.V_elder' HL160_3.out (by (exact Kd.N_base ho0)) hb); have n4_ := Aside0.mk (Kd.V_elder' HL160_6.out (by (exact Kd.N_base ho0)) hb); have n5_ := Aside0.mk (Kd.V_elder' HO164.out (by (exact Kd.N_base ho0)) hb); have n6_ := Aside0.mk (Kd.N_lower (Kd.N_mono (ok' := fun k_ => (P0_ k_ ∨ w.heap.size ≤ k_) ∧ k_ ≠ gb161 ∧ k_ ≠ gb168) ho0 (fun k_ hk_ => ⟨Or.elim hk_ (fun hs_ => Or.elim hs_ (fun hs_ => hs_.1) (fun hs_ => Or.elim hs_ (fun hs_ => hs_.1) (fun hs_ => hs_.1))) (fun hn_ => (.inr (Nat.le_trans (below_size HB.out) hn_))), Or.elim hk_ (fun hs_ => Or.elim hs_ (fun hs_ => hs_.2.1) (fun hs_ => Or.elim hs_ (fun hs_ => hs_.2.1) (fun hs_ => hs_.2.1))) (fun hn_ => (Kd.freshB BK161.out k_ hn_)), Or.elim hk_ (fun hs_ => Or.elim hs_ (fun hs_ => hs_.2.2) (fun hs_ => Or.elim hs_ (fun hs_ => hs_.2.2) (fun hs_ => hs_.2.2))) (fun hn_ => (Kd.freshB BK168.out k_ hn_))⟩)) (below_size HB.out)); have n7_ := Aside0.mk (Kd.C_below (by (exact (Kd.V_reads' HL159_3.out).2.2)) hb); have n8_ := Aside0.mk (Kd.C_below (by (exact (Kd.V_reads' HL159_6.out).2.2)) hb); have n9_ := Aside0.mk (Kd.C_below (by (exact (Kd.V_reads' HL160_3.out).2.2)) hb); have n10_ := Aside0.mk (Kd.C_below (by (exact (Kd.V_reads' HL160_6.out).2.2)) hb); clear HO_0 HL159_3 HL159_6 HL160_3 HL160_6 HO164 HR159_3 HR159_6 HR160_3 HR160_6; have HO_0 := n0_; have HL159_3 := n1_; have HL159_6 := n2_; have HL160_3 := n3_; have HL160_6 := n4_; have HO164 := n5_; have HO171 := n6_; have HR159_3 := n7_; have HR159_6 := n8_; have HR160_3 := n9_; have HR160_6 := n10_; clear n0_ n1_ n2_ n3_ n4_ n5_ n6_ n7_ n8_ n9_ n10_; replace BK161 := kb_ BK161 hb; replace BK168 := kb_ BK168 hb; replace HB := hb_ HB hb; (try clear hb); (try clear hb2); (try clear hk); (try clear hi); (try clear ho0)))
                  go_ret2
                  exact ⟨_, by rfl, Kd.N_V (by exact Kd.N_mono HO171.out (fun _ hk => hk.1)), by repeat ((with_reducible (exact HB.out)))⟩
                · rw [if_neg c15] at H
                  have c15b0 : (t167 == 0) = false := beq_eq_false_iff_ne.mpr c15
                  have c15b1 : (t167 != 0) = true := bne_iff_ne.mpr c15
                  simp only [Option.some.injEq, Prod.mk.injEq] at H
                  obtain ⟨rfl, rfl⟩ := H
                  have p159 : 0 ≤ (a2 : Int) := of_decide_eq_true (by (with_reducible assumption))
                  have q159 : a2 < (l0.length : Int) := of_decide_eq_true (by (with_reducible assumption))
                  obtain ⟨ad159, A159_3, c159_3, A159_6, c159_6, e159, hx159_0, hx159_1, hx159_2, hx159_3, hx159_4, hx159_5, hx159_6, hx159_7, hx159_8, hl159_3, hi159_3, hl159_6, hi159_6⟩ := at_T76 (Kd.V_reads' HO_0.out).2.2 a2 p159 q159
                  cases e159
                  obtain ⟨ce159, hce159, hMe159, hcc159⟩ := Kd.V_get HO_0.out z76 a2 p159 q159
                  obtain ⟨ua159_3, uc159_3, ua159_6, uc159_6, rfl, ul159_3, ge159_3, ul159_6, ge159_6⟩ := k76_openF hMe159
                  have hv159_3 := hcc159 3 _ rfl
                  rw [add_field _ _ 3 (by omega)] at hv159_3
                  replace hv159_3 := Option.some.inj (hv159_3.symm.trans hx159_3)
                  injection hv159_3 with hva_ hvn_ hvc_
                  rw [hva_] at ge159_3
                  rw [hvc_] at ul159_3
                  have HL159_3 := Aside0.mk (show Kd.V (Kd.int .i64) 3 _ w.heap.size _ _ ((rd_T76 l0 a2).f1.f0) from Kd.V_mk ul159_3 ge159_3)
                  clear hva_ hvn_ hvc_ ge159_3 ul159_3
                  have hv159_6 := hcc159 6 _ rfl
                  rw [add_field _ _ 6 (by omega)] at hv159_6
                  replace hv159_6 := Option.some.inj (hv159_6.symm.trans hx159_6)
                  injection hv159_6 with hva_ hvn_ hvc_
                  rw [hva_] at ge159_6
                  rw [hvc_] at ul159_6
                  have HL159_6 := Aside0.mk (show Kd.V (Kd.int .i64) 3 _ w.heap.size _ _ ((rd_T76 l0 a2).f2.f0) from Kd.V_mk ul159_6 ge159_6)
                  clear hva_ hvn_ hvc_ ge159_6 ul159_6
                  clear hcc159 hce159
                  have HR159_3 := Aside0.mk hi159_3
                  have HC159_3 := Aside0.mk hl159_3
                  clear hi159_3 hl159_3
                  have HR159_6 := Aside0.mk hi159_6
                  have HC159_6 := Aside0.mk hl159_6
                  clear hi159_6 hl159_6
                  replace p159 := eq_true p159
                  replace q159 := eq_true q159
                  have p160 : 0 ≤ (a2 : Int) := of_decide_eq_true (by (with_reducible assumption))
                  have q160 : a2 < (l0.length : Int) := of_decide_eq_true (by (with_reducible assumption))
                  obtain ⟨ad160, A160_3, c160_3, A160_6, c160_6, e160, hx160_0, hx160_1, hx160_2, hx160_3, hx160_4, hx160_5, hx160_6, hx160_7, hx160_8, hl160_3, hi160_3, hl160_6, hi160_6⟩ := at_T76 (Kd.V_reads' HO_0.out).2.2 a2 p160 q160
                  obtain rfl : ad159 = ad160 := (by injection e160)
                  obtain ⟨ce160, hce160, hMe160, hcc160⟩ := Kd.V_get HO_0.out z76 a2 p160 q160
                  obtain ⟨ua160_3, uc160_3, ua160_6, uc160_6, rfl, ul160_3, ge160_3, ul160_6, ge160_6⟩ := k76_openF hMe160
                  have hv160_3 := hcc160 3 _ rfl
                  rw [add_field _ _ 3 (by omega)] at hv160_3
                  replace hv160_3 := Option.some.inj (hv160_3.symm.trans hx160_3)
                  injection hv160_3 with hva_ hvn_ hvc_
                  rw [hva_] at ge160_3
                  rw [hvc_] at ul160_3
                  have HL160_3 := Aside0.mk (show Kd.V (Kd.int .i64) 3 _ w.heap.size _ _ ((rd_T76 l0 a2).f1.f0) from Kd.V_mk ul160_3 ge160_3)
                  clear hva_ hvn_ hvc_ ge160_3 ul160_3
                  have hv160_6 := hcc160 6 _ rfl
                  rw [add_field _ _ 6 (by omega)] at hv160_6
                  replace hv160_6 := Option.some.inj (hv160_6.symm.trans hx160_6)
                  injection hv160_6 with hva_ hvn_ hvc_
                  rw [hva_] at ge160_6
                  rw [hvc_] at ul160_6
                  have HL160_6 := Aside0.mk (show Kd.V (Kd.int .i64) 3 _ w.heap.size _ _ ((rd_T76 l0 a2).f2.f0) from Kd.V_mk ul160_6 ge160_6)
                  clear hva_ hvn_ hvc_ ge160_6 ul160_6
                  clear hcc160 hce160
                  have HR160_3 := Aside0.mk hi160_3
                  have HC160_3 := Aside0.mk hl160_3
                  clear hi160_3 hl160_3
                  have HR160_6 := Aside0.mk hi160_6
                  have HC160_6 := Aside0.mk hl160_6
                  clear hi160_6 hl160_6
                  replace p160 := eq_true p160
                  replace q160 := eq_true q160
                  have ea_ := Option.some.inj (hx159_3.symm.trans hx160_3)
                  injection ea_ with ea_ en_ ec_
                  subst ea_
                  subst ec_
                  clear en_
                  have ea_ := Option.some.inj (hx159_6.symm.trans hx160_6)
                  injection ea_ with ea_ en_ ec_
                  subst ea_
                  subst ec_
                  clear en_
                  go_wp2_with (first | ((with_reducible refine gate_dst (N := 10) rfl ?_); (try (refine gate_guard (by rfl) ?_; dsimp only)); refine box_event ?hg (N := 10) ?hd (cs := #[.int .i64 0, .int .i64 0, .int .i64 0, .slice none 0 0, .int .i64 0, .int .i64 0, .slice none 0 0, .int .i64 0, .int .i64 0]) (t := 76) ?hr ?_; (case hd => rfl); (case hg => rfl); (case hr => (go_simp; done)); intro gb161 hg w32 hbox hb; have n0_ := Aside0.mk (Kd.V_below (Kd.V_elderB HO_0.out gb161 (Nat.le_of_eq hg.symm)) hb); have n1_ := Aside0.mk (Kd.V_below (Kd.V_elderB HL159_3.out gb161 (Nat.le_of_eq hg.symm)) hb); have n2_ := Aside0.mk (Kd.V_below (Kd.V_elderB HL159_6.out gb161 (Nat.le_of_eq hg.symm)) hb); have n3_ := Aside0.mk (Kd.V_below (Kd.V_elderB HL160_3.out gb161 (Nat.le_of_eq hg.symm)) hb); have n4_ := Aside0.mk (Kd.V_below (Kd.V_elderB HL160_6.out gb161 (Nat.le_of_eq hg.symm)) hb); have n5_ := Aside0.mk (Kd.C_below (by (exact (Kd.V_reads' HL159_3.out).2.2)) hb); have n6_ := Aside0.mk (Kd.C_below (by (exact (Kd.V_reads' HL159_6.out).2.2)) hb); have n7_ := Aside0.mk (Kd.C_below (by (exact (Kd.V_reads' HL160_3.out).2.2)) hb); have n8_ := Aside0.mk (Kd.C_below (by (exact (Kd.V_reads' HL160_6.out).2.2)) hb); have n10_ := Aside0.mk (hbox); have n11_ := Aside0.mk ((by rw [hg]; exact (below_size HB.out) : w.heap.size ≤ gb161)); have n12_ := Aside0.mk ((by rw [hg]; exact (below_size HB.out) : w.heap.size ≤ gb161)); clear HO_0 HL159_3 HL159_6 HL160_3 HL160_6 HR159_3 HR159_6 HR160_3 HR160_6; have HO_0 := n0_; have HL159_3 := n1_; have HL159_6 := n2_; have HL160_3 := n3_; have HL160_6 := n4_; have HR159_3 := n5_; have HR159_6 := n6_; have HR160_3 := n7_; have HR160_6 := n8_; have BK161 := n10_; have GW161 := n11_; have GE161 := n12_; clear n0_ n1_ n2_ n3_ n4_ n5_ n6_ n7_ n8_ n10_ n11_ n12_; replace HB := hb_ HB hb; clear hb hbox hg; obtain ⟨_, _, _, _, _, _, _, _, _, _, _, _, _, _, _, _, _, _⟩ := bk9_ BK161.out) | ((with_reducible refine gate_store (t := 76) (p := 10) rfl ?_); refine store_event (t := 76) (p := 10) (v := ?vo_w34) (w1 := (((((((((w32.setCell ⟨gb161, 0, none⟩ (.int .i64 ((rd_T76 l0 a2).f0.f0))).setCell ⟨gb161, 1, none⟩ (.int .i64 ((rd_T76 l0 a2).f0.f1))).setCell ⟨gb161, 2, none⟩ (.int .i64 ((rd_T76 l0 a2).f0.f2))).setCell ⟨gb161, 3, none⟩ (.slice A159_3 ((rd_T76 l0 a2).f1.f0).length c159_3)).setCell ⟨gb161, 4, none⟩ (.int .i64 ((rd_T76 l0 a2).f1.f1))).setCell ⟨gb161, 5, none⟩ (.int .i64 ((rd_T76 l0 a2).f1.f2))).setCell ⟨gb161, 6, none⟩ (.slice A159_6 ((rd_T76 l0 a2).f2.f0).length c159_6)).setCell ⟨gb161, 7, none⟩ (.int .i64 ((rd_T76 l0 a2).f2.f1))).setCell ⟨gb161, 8, none⟩ (.int .i64 ((rd_T76 l0 a2).f2.f2)))) ?hg ?ho ?hn ?hr ?_; (case ho => rfl); (case hg => rfl); (case hn => rfl); (case hr => (go_simp; done)); intro w34 hw; have n0_ : Aside0 (Kd.V k76 76 w34 w.heap.size (fun k_ => (P0_ k_ ∨ w.heap.size ≤ k_) ∧ k_ ≠ gb161) (.slice (some ad159) l0.length c0) l0) := ⟨(by rw [hw]; exact (by exact Kd.V_mono (vf9_ (Kd.V_mono HO_0.out (fun k_ hk => (⟨hk, hk.2⟩ : _ ∧ k_ ≠ gb161))) (fun _ hk => hk.2)) (fun _ hk => ⟨hk.1.1, hk.1.2⟩)))⟩; have n1_ : Aside0 (Kd.V (Kd.int .i64) 3 w34 w.heap.size (fun k_ => (P0_ k_ ∨ w.heap.size ≤ k_) ∧ k_ ≠ gb161) (.slice A159_3 ((rd_T76 l0 a2).f1.f0).length c159_3) ((rd_T76 l0 a2).f1.f0)) := ⟨(by rw [hw]; exact (by exact Kd.V_mono (vf9_ (Kd.V_mono HL159_3.out (fun k_ hk => (⟨hk, hk.2⟩ : _ ∧ k_ ≠ gb161))) (fun _ hk => hk.2)) (fun _ hk => ⟨hk.1.1, hk.1.2⟩)))⟩; have n2_ : Aside0 (Kd.V (Kd.int .i64) 3 w34 w.heap.size (fun k_ => (P0_ k_ ∨ w.heap.size ≤ k_) ∧ k_ ≠ gb161) (.slice A159_6 ((rd_T76 l0 a2).f2.f0).length c159_6) ((rd_T76 l0 a2).f2.f0)) := ⟨(by rw [hw]; exact (by exact Kd.V_mono (vf9_ (Kd.V_mono HL159_6.out (fun k_ hk => (⟨hk, hk.2⟩ : _ ∧ k_ ≠ gb161))) (fun _ hk => hk.2)) (fun _ hk => ⟨hk.1.1, hk.1.2⟩)))⟩; have n3_ : Aside0 (Kd.V (Kd.int .i64) 3 w34 w.heap.size (fun k_ => (P0_ k_ ∨ w.heap.size ≤ k_) ∧ k_ ≠ gb161) (.slice A159_3 ((rd_T76 l0 a2).f1.f0).length c159_3) ((rd_T76 l0 a2).f1.f0)) := ⟨(by rw [hw]; exact (by exact Kd.V_mono (vf9_ (Kd.V_mono HL160_3.out (fun k_ hk => (⟨hk, hk.2⟩ : _ ∧ k_ ≠ gb161))) (fun _ hk => hk.2)) (fun _ hk => ⟨hk.1.1, hk.1.2⟩)))⟩; have n4_ : Aside0 (Kd.V (Kd.int .i64) 3 w34 w.heap.size (fun k_ => (P0_ k_ ∨ w.heap.size ≤ k_) ∧ k_ ≠ gb161) (.slice A159_6 ((rd_T76 l0 a2).f2.f0).length c159_6) ((rd_T76 l0 a2).f2.f0)) := ⟨(by rw [hw]; exact (by exact Kd.V_mono (vf9_ (Kd.V_mono HL160_6.out (fun k_ hk => (⟨hk, hk.2⟩ : _ ∧ k_ ≠ gb161))) (fun _ hk => hk.2)) (fun _ hk => ⟨hk.1.1, hk.1.2⟩)))⟩; have n5_ : Aside0 (w34.heap[gb161]? = some (.cells #[.int .i64 ((rd_T76 l0 a2).f0.f0), .int .i64 ((rd_T76 l0 a2).f0.f1), .int .i64 ((rd_T76 l0 a2).f0.f2), .slice A159_3 ((rd_T76 l0 a2).f1.f0).length c159_3, .int .i64 ((rd_T76 l0 a2).f1.f1), .int .i64 ((rd_T76 l0 a2).f1.f2), .slice A159_6 ((rd_T76 l0 a2).f2.f0).length c159_6, .int .i64 ((rd_T76 l0 a2).f2.f1), .int .i64 ((rd_T76 l0 a2).f2.f2)] 76 (0, 0))) := ⟨(by rw [hw]; exact (by exact bp9_ BK161.out))⟩; have n6_ : Aside0 (Below w.heap.size w w34) := ⟨(by rw [hw]; exact (by repeat ((with_reducible first | exact HB.out | refine below_set ?_ GE161.out))))⟩; clear hw; clear HO_0; clear HL159_3; clear HL159_6; clear HL160_3; clear HL160_6; clear BK161; clear HB; have HO_0 := n0_; have HL159_3 := n1_; have HL159_6 := n2_; have HL160_3 := n3_; have HL160_6 := n4_; have BK161 := n5_; have HB := n6_; clear n0_ n1_ n2_ n3_ n4_ n5_ n6_; obtain ⟨_, _, _, _, _, _, _, _, _, _, _, _, _, _, _, _, _, _⟩ := bk9_ BK161.out) | ((with_reducible refine gate_callee (f := 21) rfl ?_); refine goesL_ (some 46) rfl rfl Try.func21 (by kernel_rfl) rfl #[.agg #[.slice A159_3 ((rd_T76 l0 a2).f1.f0).length c159_3, .int .i64 ((rd_T76 l0 a2).f1.f1), .int .i64 ((rd_T76 l0 a2).f1.f2)], .int .i64 a3] rfl (by (try simp only [List.map_toArray, List.map_cons, List.map_nil]); rfl) ?_; (with_reducible refine (ring_Push.calls (fun k_ => ((P0_ k_ ∨ w.heap.size ≤ k_) ∧ k_ ≠ gb161)) _ _ ((rd_T76 l0 a2).f1.f0) ((rd_T76 l0 a2).f1.f1) ((rd_T76 l0 a2).f1.f2) a3 t162 t165 t166 t167 _ ?side1 A14.out).mono ?_); (case side1 => exact HL160_3.out); rintro e w36 ⟨v163, rfl, ho0, hb⟩; refine ⟨_, rfl, ?_⟩; have n5_ := Aside0.mk (Kd.V_lower (Kd.V_mono (ok' := fun k_ => (P0_ k_ ∨ w.heap.size ≤ k_) ∧ k_ ≠ gb161) ho0 (fun k_ hk_ => ⟨Or.elim hk_ (fun hs_ => hs_.1) (fun hn_ => (.inr (Nat.le_trans (below_size HB.out) hn_))), Or.elim hk_ (fun hs_ => hs_.2) (fun hn_ => (Kd.freshB BK161.out k_ hn_))⟩)) (below_size HB.out)); have n6_ := Aside0.mk (Kd.C_below (by (exact (Kd.V_reads' HL159_3.out).2.2)) hb); have n7_ := Aside0.mk (Kd.C_below (by (exact (Kd.V_reads' HL159_6.out).2.2)) hb); have n8_ := Aside0.mk (Kd.C_below (by (exact (Kd.V_reads' HL160_3.out).2.2)) hb); have n9_ := Aside0.mk (Kd.C_below (by (exact (Kd.V_reads' HL160_6.out).2.2)) hb); clear HR159_3 HR159_6 HR160_3 HR160_6; have HO164 := n5_; have HR159_3 := n6_; have HR159_6 := n7_; have HR160_3 := n8_; have HR160_6 := n9_; clear n5_ n6_ n7_ n8_ n9_; replace HO_0 := vb_ HO_0 hb; replace HL159_3 := vb_ HL159_3 hb; replace HL159_6 := vb_ HL159_6 hb; replace HL160_3 := vb_ HL160_3 hb; replace HL160_6 := vb_ HL160_6 hb; replace BK161 := kb_ BK161 hb; replace HB := hb_ HB hb; (try clear hb); (try clear hb2); (try clear hk); (try clear hi); (try clear ho0)) | ((with_reducible refine gate_dst (N := 11) rfl ?_); (try (refine gate_guard (by rfl) ?_; dsimp only)); refine box_event ?hg (N := 11) ?hd (cs := #[.slice none 0 0, .int .i64 0, .int .i64 0]) (t := 24) ?hr ?_; (case hd => rfl); (case hg => rfl); (case hr => (go_simp; done)); intro gb168 hg w37 hbox hb; have n0_ := Aside0.mk (Kd.V_below (Kd.V_elderB HO_0.out gb168 (Nat.le_of_eq hg.symm)) hb); have n1_ := Aside0.mk (Kd.V_below (Kd.V_elderB HL159_3.out gb168 (Nat.le_of_eq hg.symm)) hb); have n2_ := Aside0.mk (Kd.V_below (Kd.V_elderB HL159_6.out gb168 (Nat.le_of_eq hg.symm)) hb); have n3_ := Aside0.mk (Kd.V_below (Kd.V_elderB HL160_3.out gb168 (Nat.le_of_eq hg.symm)) hb); have n4_ := Aside0.mk (Kd.V_below (Kd.V_elderB HL160_6.out gb168 (Nat.le_of_eq hg.symm)) hb); have n5_ := Aside0.mk (Kd.V_below (Kd.V_elderB HO164.out gb168 (Nat.le_of_eq hg.symm)) hb); have n6_ := Aside0.mk (Kd.C_below (by (exact (Kd.V_reads' HL159_3.out).2.2)) hb); have n7_ := Aside0.mk (Kd.C_below (by (exact (Kd.V_reads' HL159_6.out).2.2)) hb); have n8_ := Aside0.mk (Kd.C_below (by (exact (Kd.V_reads' HL160_3.out).2.2)) hb); have n9_ := Aside0.mk (Kd.C_below (by (exact (Kd.V_reads' HL160_6.out).2.2)) hb); have n12_ := Aside0.mk (hbox); have n13_ := Aside0.mk ((by rw [hg]; exact (below_size HB.out) : w.heap.size ≤ gb168)); have n14_ := Aside0.mk ((by rw [hg]; exact (below_size HB.out) : w.heap.size ≤ gb168)); have n15_ := Aside0.mk ((by rw [hg]; exact Nat.ne_of_lt (blk_lt BK161.out) : gb161 ≠ gb168)); have n16_ := Aside0.mk ((by rw [hg]; exact Nat.ne_of_gt (blk_lt BK161.out) : gb168 ≠ gb161)); clear HO_0 HL159_3 HL159_6 HL160_3 HL160_6 HO164 HR159_3 HR159_6 HR160_3 HR160_6; have HO_0 := n0_; have HL159_3 := n1_; have HL159_6 := n2_; have HL160_3 := n3_; have HL160_6 := n4_; have HO164 := n5_; have HR159_3 := n6_; have HR159_6 := n7_; have HR160_3 := n8_; have HR160_6 := n9_; have BK168 := n12_; have GW168 := n13_; have GE168 := n14_; have NB161_168 := n15_; have NB168_161 := n16_; clear n0_ n1_ n2_ n3_ n4_ n5_ n6_ n7_ n8_ n9_ n12_ n13_ n14_ n15_ n16_; replace BK161 := kb_ BK161 hb; replace HB := hb_ HB hb; clear hb hbox hg; obtain ⟨Ao38, co38, eo38⟩ := Kd.V_slice HO164.out; subst eo38; have hnb39 := NB168_161.out; have hnc39 := NB161_168.out; obtain ⟨_, _, _, _, _, _⟩ := bk3_ BK168.out))
                  go_ret2
                  exact ⟨_, by rfl, by exact Kd.V_mono (vf3_ (Kd.V_mono HO_0.out (fun k_ hk => (⟨hk, hk.2⟩ : _ ∧ k_ ≠ gb168))) (fun _ hk => hk.2)) (fun _ hk => hk.1.1.1), by repeat ((with_reducible first | exact HB.out | refine below_set ?_ GE168.out))⟩
              · rw [if_neg c13] at H
                have c13b0 : (((rd_T76 l0 a2).f0.f0) == a1) = false := beq_eq_false_iff_ne.mpr c13
                have c13b1 : (((rd_T76 l0 a2).f0.f0) != a1) = true := bne_iff_ne.mpr c13
                simp only [Option.some.injEq, Prod.mk.injEq] at H
                obtain ⟨rfl, rfl⟩ := H
                have p159 : 0 ≤ (a2 : Int) := of_decide_eq_true (by (with_reducible assumption))
                have q159 : a2 < (l0.length : Int) := of_decide_eq_true (by (with_reducible assumption))
                obtain ⟨ad159, A159_3, c159_3, A159_6, c159_6, e159, hx159_0, hx159_1, hx159_2, hx159_3, hx159_4, hx159_5, hx159_6, hx159_7, hx159_8, hl159_3, hi159_3, hl159_6, hi159_6⟩ := at_T76 (Kd.V_reads' HO_0.out).2.2 a2 p159 q159
                cases e159
                obtain ⟨ce159, hce159, hMe159, hcc159⟩ := Kd.V_get HO_0.out z76 a2 p159 q159
                obtain ⟨ua159_3, uc159_3, ua159_6, uc159_6, rfl, ul159_3, ge159_3, ul159_6, ge159_6⟩ := k76_openF hMe159
                have hv159_3 := hcc159 3 _ rfl
                rw [add_field _ _ 3 (by omega)] at hv159_3
                replace hv159_3 := Option.some.inj (hv159_3.symm.trans hx159_3)
                injection hv159_3 with hva_ hvn_ hvc_
                rw [hva_] at ge159_3
                rw [hvc_] at ul159_3
                have HL159_3 := Aside0.mk (show Kd.V (Kd.int .i64) 3 _ w.heap.size _ _ ((rd_T76 l0 a2).f1.f0) from Kd.V_mk ul159_3 ge159_3)
                clear hva_ hvn_ hvc_ ge159_3 ul159_3
                have hv159_6 := hcc159 6 _ rfl
                rw [add_field _ _ 6 (by omega)] at hv159_6
                replace hv159_6 := Option.some.inj (hv159_6.symm.trans hx159_6)
                injection hv159_6 with hva_ hvn_ hvc_
                rw [hva_] at ge159_6
                rw [hvc_] at ul159_6
                have HL159_6 := Aside0.mk (show Kd.V (Kd.int .i64) 3 _ w.heap.size _ _ ((rd_T76 l0 a2).f2.f0) from Kd.V_mk ul159_6 ge159_6)
                clear hva_ hvn_ hvc_ ge159_6 ul159_6
                clear hcc159 hce159
                have HR159_3 := Aside0.mk hi159_3
                have HC159_3 := Aside0.mk hl159_3
                clear hi159_3 hl159_3
                have HR159_6 := Aside0.mk hi159_6
                have HC159_6 := Aside0.mk hl159_6
                clear hi159_6 hl159_6
                replace p159 := eq_true p159
                replace q159 := eq_true q159
                go_wp2
                go_ret2
                exact ⟨_, by rfl, by exact HO_0.out, by repeat ((with_reducible (exact HB.out)))⟩
            · rw [if_neg c12] at H
              exact absurd H (by simp)
          · rw [if_neg c11] at H
            exact absurd H (by simp)
  · replace c6 := Bool.eq_false_iff.mpr c6
    subst c6
    have H1 : (some (l0, 1)) = some (r1, r2) := by rw [if_neg (show ¬ (false = true) by decide)] at H; exact H
    clear H
    have H := H1
    clear H1
    simp only [Option.some.injEq, Prod.mk.injEq] at H
    obtain ⟨rfl, rfl⟩ := H
    go_enter Try.func28, Try.ntmps28
    go_wp2_with (((with_reducible refine gate_callee (f := 31) rfl ?_); refine goesL_ (some 15) rfl rfl Try.func31 (by kernel_rfl) rfl #[.slice A0 l0.length c0] rfl (by (try simp only [List.map_toArray, List.map_cons, List.map_nil]); rfl) ?_; (with_reducible refine (port_Right.calls k _ _ l0 false _ ?side1 ?side2 A5.out).mono ?_); (case side1 => repeat ((exact (Kd.V_reads' HO0.out).2.2))); (case side2 => exact (Kd.V_reads' HO0.out).2.1); rintro e w41 ⟨rfl, hb⟩; refine ⟨_, rfl, ?_⟩; replace HO0 := vb_ HO0 hb; replace HB := hb_ HB hb; (try clear hb); (try clear hb2); (try clear hk); (try clear hi)))
    go_ret2
    exact ⟨_, by rfl, by exact HO0.out, by repeat ((with_reducible (exact HB.out)))⟩

end Go.Proofs.Yteddflcloeelhaa.FDeliv
