-- Written by the session (wip/tools) for this claim: functions of the program as Lean functions, and their contracts.
import Derived.Test.YteddflcloeelhaaZXShort
import Derived.Test.YteddflcloeelhaaZFDelivx0
import Derived.Test.YteddflcloeelhaaZFDelivx2
import Derived.Test.YteddflcloeelhaaZFDelivx3
import Derived.Test.YteddflcloeelhaaZFDelivx4
namespace Go.Proofs.Yteddflcloeelhaa.FDeliv
open Go.RowKit Go.Proofs.YteddflcloeelhaaW.PrintWords Go.Proofs.YteddflcloeelhaaW.PrintLast Go.Proofs.YteddflcloeelhaaW.PrintMore
attribute [local go_sem] max2_int min2_int max_two min_two max_three min_three max_four min_four   -- for this text's walks alone
set_option linter.unusedVariables false
set_option linter.unusedSimpArgs false

/-! ### port_Deliver: function 30 -/
mutual
def port_Deliver.l0 : Nat → List (S76) → List (S76) → Int → Int → Option ((List (S76)))
  | 0, _, _, _, _ => none
  | k + 1, x3, x14, x15, x16 => if x16 < x15 then (if 0 ≤ x16 then (if x16 < (x14.length : Int) then (port_Deliver.l1 k x3 x16 x14 x15 x16 ((rd_T76 x14 x16).f1.f2) 0 ((rd_T76 x14 x16).f0.f0) ((rd_T76 x14 x16).f0.f1) ((rd_T76 x14 x16).f0.f2) ((rd_T76 x14 x16).f1.f0) ((rd_T76 x14 x16).f1.f1) ((rd_T76 x14 x16).f1.f2) ((rd_T76 x14 x16).f2.f0) ((rd_T76 x14 x16).f2.f1) ((rd_T76 x14 x16).f2.f2)) else (none)) else (none)) else (some x3)
def port_Deliver.l1 : Nat → List (S76) → Int → List (S76) → Int → Int → Int → Int → Int → Int → Int → List Int → Int → Int → List Int → Int → Int → Option ((List (S76)))
  | 0, _, _, _, _, _, _, _, _, _, _, _, _, _, _, _, _ => none
  | k + 1, x3, x4, x14, x15, x16, x23, x24, x223000, x223001, x223002, x223003, x223004, x223005, x223006, x223007, x223008 => if x24 < x23 then ((ring_Pop.f x223003 x223004 x223005).bind fun bt223 => ((ring_Put.f x223006 x223007 x223008 bt223.1).bind fun bt231 => (port_Deliver.l1 k x3 x4 x14 x15 x16 x23 (wrap64 (x24 + 1)) x223000 x223001 x223002 bt223.2.1 bt223.2.2.1 bt223.2.2.2.1 bt231.1 bt231.2.1 bt231.2.2))) else ((port_with.f x3 x4 x223000 x223001 x223002 x223003 x223004 x223005 x223006 x223007 x223008).bind fun t236 => (port_Deliver.l0 k t236 x14 x15 (wrap64 (x16 + 1))))
end
def port_Deliver.f (k : Nat) (l0 : List (S76)) : Option ((List (S76))) := (port_Right.f k l0).bind fun t220 => (if t220 = true then (port_Deliver.l0 k l0 l0 (l0.length : Int) 0) else (some l0))
theorem port_Deliver.mono_l : ∀ k, (∀ y0 y1 y2 y3, LeO (port_Deliver.l0 k y0 y1 y2 y3) (port_Deliver.l0 (k + 1) y0 y1 y2 y3)) ∧ (∀ y0 y1 y2 y3 y4 y5 y6 y7 y8 y9 y10 y11 y12 y13 y14 y15, LeO (port_Deliver.l1 k y0 y1 y2 y3 y4 y5 y6 y7 y8 y9 y10 y11 y12 y13 y14 y15) (port_Deliver.l1 (k + 1) y0 y1 y2 y3 y4 y5 y6 y7 y8 y9 y10 y11 y12 y13 y14 y15))
  | 0 => ⟨fun _ _ _ _ r h => by simp [port_Deliver.l0] at h, fun _ _ _ _ _ _ _ _ _ _ _ _ _ _ _ _ r h => by simp [port_Deliver.l1] at h⟩
  | k + 1 => by
    obtain ⟨ih0, ih1⟩ := port_Deliver.mono_l k
    refine ⟨?_, ?_⟩
    · intro y0 y1 y2 y3
      unfold port_Deliver.l0
      repeat' first | (with_reducible exact ih1 _ _ _ _ _ _ _ _ _ _ _ _ _ _ _ _) | (with_reducible exact LeO.refl _) | (with_reducible refine LeO.ite ?_ ?_)
    · intro y0 y1 y2 y3 y4 y5 y6 y7 y8 y9 y10 y11 y12 y13 y14 y15
      unfold port_Deliver.l1
      repeat' first | (with_reducible exact ih0 _ _ _ _) | (with_reducible exact ih1 _ _ _ _ _ _ _ _ _ _ _ _ _ _ _ _) | (with_reducible exact LeO.refl _) | (with_reducible refine LeO.ite ?_ ?_) | (with_reducible refine LeO.bind ?_ (fun _ => ?_))
theorem port_Deliver.mono : ∀ a0 k, LeO (port_Deliver.f k a0) (port_Deliver.f (k + 1) a0) := by
  intro a0 k
  obtain ⟨ih0, ih1⟩ := port_Deliver.mono_l k
  unfold port_Deliver.f
  repeat' first | (with_reducible exact ih0 _ _ _ _) | (with_reducible exact port_Right.mono _ _) | (with_reducible exact LeO.refl _) | (with_reducible refine LeO.ite ?_ ?_) | (with_reducible refine LeO.bind ?_ (fun _ => ?_))
def port_Deliver.T10 : Bool × List (List Nat × List Nat) := (true, [([], []), ([], []), ([1], [1]), ([], []), ([2, 3], [2, 3]), ([0, 1, 2], []), ([5, 0, 4, 0, 1, 2], [0, 5]), ([0, 1, 2, 3, 4, 5, 6], []), ([7, 4, 6, 0, 1, 2, 3, 4, 5, 6], [4, 7])])
def port_Deliver.B10 : List Nat := [0, 0, 2, 0, 14, 7, 63, 127, 255]
theorem port_Deliver.tab10 : rtab .any (opsOf Try.f30 10) = port_Deliver.T10 := by kernel_rfl
theorem port_Deliver.bits10 : waitsOk port_Deliver.T10.2 port_Deliver.B10 = true := by kernel_rfl
set_option maxHeartbeats 8000000 in
set_option maxRecDepth 100000 in
theorem port_Deliver.calls (k : Nat) (P0_ : Nat → Prop) (A0 : Option Addr) (c0 : Nat) (l0 : List (S76)) (r : List (S76)) (w : World) (hs0 : Kd.V k76 76 w w.heap.size (fun k_ => P0_ k_) (.slice A0 l0.length c0) l0) (h : port_Deliver.f k l0 = some r) :
    Calls Try.prog 30 #[.slice A0 l0.length c0] w fun e w' => ∃ v0_ : Value, e = .returned (v0_) ∧ Kd.V k76 76 w' w.heap.size (fun k_ => (P0_ k_ ∨ w.heap.size ≤ k_)) v0_ r ∧ Below w.heap.size w w' := by
  have hu76 := Try.underlying76
  have hu24 := Try.underlying24
  have HO0 := Aside0.mk (show Kd.V k76 76 w w.heap.size (fun k_ => (P0_ k_ ∨ w.heap.size ≤ k_)) (.slice A0 l0.length c0) l0 from Kd.V_mono hs0 (fun k_ hk => .inl hk))
  have HB := Aside0.mk (Below.refl w.heap.size w)
  have H : ((port_Right.f k l0).bind fun t220 => (if t220 = true then (port_Deliver.l0 k l0 l0 (l0.length : Int) 0) else (some l0))) = some r := h
  clear h
  replace H := Option.bind_eq_some_iff.mp H
  obtain ⟨t220, A20, H⟩ := H
  replace H : (if t220 = true then (port_Deliver.l0 k l0 l0 (l0.length : Int) 0) else (some l0)) = some r := H
  have A2 := Aside0.mk A20
  clear A20
  by_cases c3 : t220 = true
  · subst c3
    have H1 : (port_Deliver.l0 k l0 l0 (l0.length : Int) 0) = some r := by rw [if_pos rfl] at H; exact H
    clear H
    have H := H1
    clear H1
    have H' := Aside0.mk H
    clear H
    go_enter Try.func30, Try.ntmps30
    go_wp2_with (((with_reducible refine gate_callee (f := 31) rfl ?_); refine goesL_ (some 10) rfl rfl Try.func31 (by kernel_rfl) rfl #[.slice A0 l0.length c0] rfl (by (try simp only [List.map_toArray, List.map_cons, List.map_nil]); rfl) ?_; (with_reducible refine (port_Right.calls k _ _ l0 true _ ?side1 ?side2 A2.out).mono ?_); (case side1 => repeat ((exact (Kd.V_reads' HO0.out).2.2))); (case side2 => exact (Kd.V_reads' HO0.out).2.1); rintro e w4 ⟨rfl, hb⟩; refine ⟨_, rfl, ?_⟩; replace HO0 := vb_ HO0 hb; replace HB := hb_ HB hb; (try clear hb); (try clear hb2); (try clear hk); (try clear hi)))
    go_loopg [3, 16] k (fun kq v3 v16 w' => ∃ (x3_1 : List (S76)) (x16_1 : Int), v16 = .int .i64 x16_1 ∧ Aside0 (port_Deliver.l0 kq x3_1 l0 (l0.length : Int) x16_1 = some r) ∧ Aside0 (kq ≤ k) ∧ Aside0 (Kd.V k76 76 w' w.heap.size (fun k_ => (P0_ k_ ∨ w.heap.size ≤ k_)) v3 x3_1) ∧ Aside0 (Kd.V k76 76 w' w.heap.size (fun k_ => (P0_ k_ ∨ w.heap.size ≤ k_)) (.slice A0 l0.length c0) l0) ∧ Aside0 (Below w.heap.size w w'))
    case atStart => exact ⟨(l0), (0), (by rfl), H', ⟨Nat.le_refl _⟩, ⟨HO0.out⟩, ⟨HO0.out⟩, ⟨HB.out⟩⟩
    case round =>
      clear H'
      try clear p2
      try clear c3
      obtain ⟨x3_1, x16_1, rfl, HA, HK1, HO_3, HO_14, HB⟩ := hrel
      cases gk with
      | zero => exact absurd HA.out (by simp [port_Deliver.l0])
      | succ k1 =>
        have H := HA.out
        clear HA
        simp only [port_Deliver.l0] at H
        by_cases c5 : x16_1 < (l0.length : Int)
        · rw [if_pos c5] at H
          have c5b0 : decide (x16_1 < (l0.length : Int)) = true := decide_eq_true c5
          clear c5
          by_cases c6 : 0 ≤ x16_1
          · rw [if_pos c6] at H
            have c6b0 : decide (0 ≤ x16_1) = true := decide_eq_true c6
            clear c6
            by_cases c7 : x16_1 < (l0.length : Int)
            · rw [if_pos c7] at H
              have c7b0 : decide (x16_1 < (l0.length : Int)) = true := decide_eq_true c7
              clear c7
              have H' := Aside0.mk H
              clear H
              have p221 : 0 ≤ (x16_1 : Int) := of_decide_eq_true (by (with_reducible assumption))
              have q221 : x16_1 < (l0.length : Int) := of_decide_eq_true (by (with_reducible assumption))
              obtain ⟨ad221, A221_3, c221_3, A221_6, c221_6, e221, hx221_0, hx221_1, hx221_2, hx221_3, hx221_4, hx221_5, hx221_6, hx221_7, hx221_8, hl221_3, hi221_3, hl221_6, hi221_6⟩ := at_T76 (Kd.V_reads' HO_14.out).2.2 x16_1 p221 q221
              cases e221
              obtain ⟨ce221, hce221, hMe221, hcc221⟩ := Kd.V_get HO_14.out z76 x16_1 p221 q221
              obtain ⟨ua221_3, uc221_3, ua221_6, uc221_6, rfl, ul221_3, ge221_3, ul221_6, ge221_6⟩ := k76_openF hMe221
              have hv221_3 := hcc221 3 _ rfl
              rw [add_field _ _ 3 (by omega)] at hv221_3
              replace hv221_3 := Option.some.inj (hv221_3.symm.trans hx221_3)
              injection hv221_3 with hva_ hvn_ hvc_
              rw [hva_] at ge221_3
              rw [hvc_] at ul221_3
              have HL221_3 := Aside0.mk (show Kd.V (Kd.int .i64) 3 _ w.heap.size _ _ ((rd_T76 l0 x16_1).f1.f0) from Kd.V_mk ul221_3 ge221_3)
              clear hva_ hvn_ hvc_ ge221_3 ul221_3
              have hv221_6 := hcc221 6 _ rfl
              rw [add_field _ _ 6 (by omega)] at hv221_6
              replace hv221_6 := Option.some.inj (hv221_6.symm.trans hx221_6)
              injection hv221_6 with hva_ hvn_ hvc_
              rw [hva_] at ge221_6
              rw [hvc_] at ul221_6
              have HL221_6 := Aside0.mk (show Kd.V (Kd.int .i64) 3 _ w.heap.size _ _ ((rd_T76 l0 x16_1).f2.f0) from Kd.V_mk ul221_6 ge221_6)
              clear hva_ hvn_ hvc_ ge221_6 ul221_6
              clear hcc221 hce221
              have HR221_3 := Aside0.mk hi221_3
              have HC221_3 := Aside0.mk hl221_3
              clear hi221_3 hl221_3
              have HR221_6 := Aside0.mk hi221_6
              have HC221_6 := Aside0.mk hl221_6
              clear hi221_6 hl221_6
              replace p221 := eq_true p221
              replace q221 := eq_true q221
              go_wp2_with (((with_reducible refine gate_dst (N := 5) rfl ?_); refine box_event ?hg (N := 5) ?hd (cs := #[.int .i64 0, .int .i64 0, .int .i64 0, .slice none 0 0, .int .i64 0, .int .i64 0, .slice none 0 0, .int .i64 0, .int .i64 0]) (t := 76) ?hr ?_; (case hd => rfl); (case hg => rfl); (case hr => (go_simp; done)); intro gb222 hg w8 hbox hb; have n0_ := Aside0.mk (Kd.V_below (Kd.V_elderB HO_3.out gb222 (Nat.le_of_eq hg.symm)) hb); have n1_ := Aside0.mk (Kd.V_below (Kd.V_elderB HO_14.out gb222 (Nat.le_of_eq hg.symm)) hb); have n2_ := Aside0.mk (Kd.V_below (Kd.V_elderB HL221_3.out gb222 (Nat.le_of_eq hg.symm)) hb); have n3_ := Aside0.mk (Kd.V_below (Kd.V_elderB HL221_6.out gb222 (Nat.le_of_eq hg.symm)) hb); have n4_ := Aside0.mk (Kd.C_below (by (exact (Kd.V_reads' HL221_3.out).2.2)) hb); have n5_ := Aside0.mk (Kd.C_below (by (exact (Kd.V_reads' HL221_6.out).2.2)) hb); have n7_ := Aside0.mk (hbox); have n8_ := Aside0.mk ((by rw [hg]; exact (below_size HB.out) : w.heap.size ≤ gb222)); have n9_ := Aside0.mk ((by rw [hg]; exact (below_size HB.out) : w.heap.size ≤ gb222)); clear HO_3 HO_14 HL221_3 HL221_6 HR221_3 HR221_6; have HO_3 := n0_; have HO_14 := n1_; have HL221_3 := n2_; have HL221_6 := n3_; have HR221_3 := n4_; have HR221_6 := n5_; have BK222 := n7_; have GW222 := n8_; have GE222 := n9_; clear n0_ n1_ n2_ n3_ n4_ n5_ n7_ n8_ n9_; replace HB := hb_ HB hb; clear hb hbox hg; obtain ⟨hcz9_0, hcz9_1, hcz9_2, hcz9_3, hcz9_4, hcz9_5, hcz9_6, hcz9_7, hcz9_8, hfz9_0, hfz9_1, hfz9_2, hfz9_3, hfz9_4, hfz9_5, hfz9_6, hfz9_7, hfz9_8⟩ := bk9_ BK222.out))
              go_loopg [24] k1 (fun kq v24 w' => ∃ (x24_2 : Int) (x223003_2 : List Int) (x223004_2 : Int) (x223005_2 : Int) (x223006_2 : List Int) (x223007_2 : Int) (x223008_2 : Int) (u223003 : Value) (u223006 : Value), v24 = .int .i64 x24_2 ∧ Aside0 (port_Deliver.l1 kq x3_1 x16_1 l0 (l0.length : Int) x16_1 ((rd_T76 l0 x16_1).f1.f2) x24_2 ((rd_T76 l0 x16_1).f0.f0) ((rd_T76 l0 x16_1).f0.f1) ((rd_T76 l0 x16_1).f0.f2) x223003_2 x223004_2 x223005_2 x223006_2 x223007_2 x223008_2 = some r) ∧ Aside0 (kq ≤ k1) ∧ Aside0 (Kd.V k76 76 w' w.heap.size (fun k_ => (P0_ k_ ∨ w.heap.size ≤ k_) ∧ k_ ≠ gb222) u3 x3_1) ∧ Aside0 (Kd.V k76 76 w' w.heap.size (fun k_ => (P0_ k_ ∨ w.heap.size ≤ k_) ∧ k_ ≠ gb222) (.slice (some ad221) l0.length c0) l0) ∧ Aside0 (Kd.V (Kd.int .i64) 3 w' w.heap.size (fun k_ => (P0_ k_ ∨ w.heap.size ≤ k_) ∧ k_ ≠ gb222) u223003 x223003_2) ∧ Aside0 (Kd.V (Kd.int .i64) 3 w' w.heap.size (fun k_ => (P0_ k_ ∨ w.heap.size ≤ k_) ∧ k_ ≠ gb222) u223006 x223006_2) ∧ Aside0 (w'.heap[gb222]? = some (.cells #[.int .i64 ((rd_T76 l0 x16_1).f0.f0), .int .i64 ((rd_T76 l0 x16_1).f0.f1), .int .i64 ((rd_T76 l0 x16_1).f0.f2), u223003, .int .i64 x223004_2, .int .i64 x223005_2, u223006, .int .i64 x223007_2, .int .i64 x223008_2] 76 (0, 0))) ∧ Aside0 (Below w.heap.size w w'))
              case atStart => exact ⟨(0), ((rd_T76 l0 x16_1).f1.f0), ((rd_T76 l0 x16_1).f1.f1), ((rd_T76 l0 x16_1).f1.f2), ((rd_T76 l0 x16_1).f2.f0), ((rd_T76 l0 x16_1).f2.f1), ((rd_T76 l0 x16_1).f2.f2), (.slice A221_3 ((rd_T76 l0 x16_1).f1.f0).length c221_3), (.slice A221_6 ((rd_T76 l0 x16_1).f2.f0).length c221_6), (by rfl), H', ⟨Nat.le_refl _⟩, ⟨by exact Kd.V_mono (vf9_ (Kd.V_mono HO_3.out (fun k_ hk => (⟨hk, hk.2⟩ : _ ∧ k_ ≠ gb222))) (fun _ hk => hk.2)) (fun _ hk => ⟨hk.1.1, hk.1.2⟩)⟩, ⟨by exact Kd.V_mono (vf9_ (Kd.V_mono HO_14.out (fun k_ hk => (⟨hk, hk.2⟩ : _ ∧ k_ ≠ gb222))) (fun _ hk => hk.2)) (fun _ hk => ⟨hk.1.1, hk.1.2⟩)⟩, ⟨by exact Kd.V_mono (vf9_ (Kd.V_mono HL221_3.out (fun k_ hk => (⟨hk, hk.2⟩ : _ ∧ k_ ≠ gb222))) (fun _ hk => hk.2)) (fun _ hk => ⟨hk.1.1, hk.1.2⟩)⟩, ⟨by exact Kd.V_mono (vf9_ (Kd.V_mono HL221_6.out (fun k_ hk => (⟨hk, hk.2⟩ : _ ∧ k_ ≠ gb222))) (fun _ hk => hk.2)) (fun _ hk => ⟨hk.1.1, hk.1.2⟩)⟩, ⟨by exact bp9_ BK222.out⟩, ⟨by repeat ((with_reducible first | exact HB.out | refine below_set ?_ GE222.out))⟩⟩
              case round =>
                clear H'
                try clear c2
                try clear p2
                try clear q2
                try clear hx2
                try clear c3
                try clear c5
                try clear c5b0
                try clear c6
                try clear c6b0
                try clear c7
                try clear c7b0
                try clear hcz9_0
                try clear hcz9_1
                try clear hcz9_2
                try clear hcz9_3
                try clear hcz9_4
                try clear hcz9_5
                try clear hcz9_6
                try clear hcz9_7
                try clear hcz9_8
                try clear hfz9_0
                try clear hfz9_1
                try clear hfz9_2
                try clear hfz9_3
                try clear hfz9_4
                try clear hfz9_5
                try clear hfz9_6
                try clear hfz9_7
                try clear hfz9_8
                try clear hx221_0
                try clear hx221_1
                try clear hx221_2
                try clear hx221_3
                try clear hx221_4
                try clear hx221_5
                try clear hx221_6
                try clear hx221_7
                try clear hx221_8
                try clear p2
                try clear p221
                try clear q221
                obtain ⟨x24_2, x223003_2, x223004_2, x223005_2, x223006_2, x223007_2, x223008_2, u223003, u223006, rfl, HA, HK2, HO_3, HO_14, HO_223003, HO_223006, BK222, HB⟩ := hrel
                cases gk with
                | zero => exact absurd HA.out (by simp [port_Deliver.l1])
                | succ k2 =>
                  have H := HA.out
                  clear HA
                  simp only [port_Deliver.l1] at H
                  by_cases c10 : x24_2 < ((rd_T76 l0 x16_1).f1.f2)
                  · rw [if_pos c10] at H
                    have c10b0 : decide (x24_2 < ((rd_T76 l0 x16_1).f1.f2)) = true := decide_eq_true c10
                    clear c10
                    replace H := Option.bind_eq_some_iff.mp H
                    obtain ⟨⟨t223, t224, t227, t228, t229⟩, A110, H⟩ := H
                    replace H : ((ring_Put.f x223006_2 x223007_2 x223008_2 t223).bind fun bt231 => (port_Deliver.l1 k2 x3_1 x16_1 l0 (l0.length : Int) x16_1 ((rd_T76 l0 x16_1).f1.f2) (wrap64 (x24_2 + 1)) ((rd_T76 l0 x16_1).f0.f0) ((rd_T76 l0 x16_1).f0.f1) ((rd_T76 l0 x16_1).f0.f2) t224 t227 t228 bt231.1 bt231.2.1 bt231.2.2)) = some r := H
                    have A11 := Aside0.mk A110
                    clear A110
                    replace H := Option.bind_eq_some_iff.mp H
                    obtain ⟨⟨t231, t234, t235⟩, A120, H⟩ := H
                    replace H : (port_Deliver.l1 k2 x3_1 x16_1 l0 (l0.length : Int) x16_1 ((rd_T76 l0 x16_1).f1.f2) (wrap64 (x24_2 + 1)) ((rd_T76 l0 x16_1).f0.f0) ((rd_T76 l0 x16_1).f0.f1) ((rd_T76 l0 x16_1).f0.f2) t224 t227 t228 t231 t234 t235) = some r := H
                    have A12 := Aside0.mk A120
                    clear A120
                    have H' := Aside0.mk H
                    clear H
                    obtain ⟨_, _, _, _, _, _, _, _, _, _, _, _, _, _, _, _, _, _⟩ := bk9_ BK222.out
                    obtain ⟨Ao14, co14, eo14⟩ := Kd.V_slice HO_223003.out
                    subst eo14
                    try go_wp2_with (first | ((with_reducible refine gate_callee (f := 23) rfl ?_); refine goesL_ (some 29) rfl rfl Try.func23 (by kernel_rfl) rfl #[.agg #[.slice Ao14 x223003_2.length co14, .int .i64 x223004_2, .int .i64 x223005_2]] rfl (by (try simp only [List.map_toArray, List.map_cons, List.map_nil]); rfl) ?_; (with_reducible refine (ring_Pop.calls (fun k_ => ((P0_ k_ ∨ w.heap.size ≤ k_) ∧ k_ ≠ gb222)) _ _ x223003_2 x223004_2 x223005_2 t223 t224 t227 t228 t229 _ ?side1 A11.out).mono ?_); (case side1 => exact HO_223003.out); rintro e w15 ⟨v225, rfl, ho0, hb⟩; refine ⟨_, rfl, ?_⟩; have n4_ := Aside0.mk (Kd.V_lower (Kd.V_mono (ok' := fun k_ => (P0_ k_ ∨ w.heap.size ≤ k_) ∧ k_ ≠ gb222) ho0 (fun k_ hk_ => ⟨Or.elim hk_ (fun hs_ => hs_.1) (fun hn_ => (.inr (Nat.le_trans (below_size HB.out) hn_))), Or.elim hk_ (fun hs_ => hs_.2) (fun hn_ => (Kd.freshB BK222.out k_ hn_))⟩)) (below_size HB.out)); have HO226 := n4_; clear n4_; replace HO_3 := vb_ HO_3 hb; replace HO_14 := vb_ HO_14 hb; replace HO_223003 := vb_ HO_223003 hb; replace HO_223006 := vb_ HO_223006 hb; replace BK222 := kb_ BK222 hb; replace HB := hb_ HB hb; (try clear hb); (try clear hb2); (try clear hk); (try clear hi); (try clear ho0)) | ((with_reducible refine gate_dst (N := 7) rfl ?_); refine box_event ?hg (N := 7) ?hd (cs := #[.slice none 0 0, .int .i64 0, .int .i64 0]) (t := 24) ?hr ?_; (case hd => rfl); (case hg => rfl); (case hr => (go_simp; done)); intro gb230 hg w16 hbox hb; have n0_ := Aside0.mk (Kd.V_below (Kd.V_elderB HO_3.out gb230 (Nat.le_of_eq hg.symm)) hb); have n1_ := Aside0.mk (Kd.V_below (Kd.V_elderB HO_14.out gb230 (Nat.le_of_eq hg.symm)) hb); have n2_ := Aside0.mk (Kd.V_below (Kd.V_elderB HO_223003.out gb230 (Nat.le_of_eq hg.symm)) hb); have n3_ := Aside0.mk (Kd.V_below (Kd.V_elderB HO_223006.out gb230 (Nat.le_of_eq hg.symm)) hb); have n4_ := Aside0.mk (Kd.V_below (Kd.V_elderB HO226.out gb230 (Nat.le_of_eq hg.symm)) hb); have n7_ := Aside0.mk (hbox); have n8_ := Aside0.mk ((by rw [hg]; exact (below_size HB.out) : w.heap.size ≤ gb230)); have n9_ := Aside0.mk ((by rw [hg]; exact (below_size HB.out) : w.heap.size ≤ gb230)); have n10_ := Aside0.mk ((by rw [hg]; exact Nat.ne_of_lt (blk_lt BK222.out) : gb222 ≠ gb230)); have n11_ := Aside0.mk ((by rw [hg]; exact Nat.ne_of_gt (blk_lt BK222.out) : gb230 ≠ gb222)); clear HO_3 HO_14 HO_223003 HO_223006 HO226; have HO_3 := n0_; have HO_14 := n1_; have HO_223003 := n2_; have HO_223006 := n3_; have HO226 := n4_; have BK230 := n7_; have GW230 := n8_; have GE230 := n9_; have NB222_230 := n10_; have NB230_222 := n11_; clear n0_ n1_ n2_ n3_ n4_ n7_ n8_ n9_ n10_ n11_; replace BK222 := kb_ BK222 hb; replace HB := hb_ HB hb; clear hb hbox hg; obtain ⟨Ao17, co17, eo17⟩ := Kd.V_slice HO226.out; subst eo17; have hnb18 := NB230_222.out; have hnc18 := NB222_230.out; obtain ⟨_, _, _, _, _, _⟩ := bk3_ BK230.out))
                    have n0_ : Aside0 (Kd.V k76 76 (((w16.setCell ⟨gb230, 0, none⟩ (.slice Ao17 t224.length co17)).setCell ⟨gb230, 1, none⟩ (.int .i64 t227)).setCell ⟨gb230, 2, none⟩ (.int .i64 t228)) w.heap.size (fun k_ => (P0_ k_ ∨ w.heap.size ≤ k_) ∧ k_ ≠ gb222 ∧ k_ ≠ gb230) u3 x3_1) := ⟨by exact Kd.V_mono (vf3_ (Kd.V_mono HO_3.out (fun k_ hk => (⟨hk, hk.2⟩ : _ ∧ k_ ≠ gb230))) (fun _ hk => hk.2)) (fun _ hk => ⟨hk.1.1.1, ⟨hk.1.1.2, hk.1.2⟩⟩)⟩
                    have n1_ : Aside0 (Kd.V k76 76 (((w16.setCell ⟨gb230, 0, none⟩ (.slice Ao17 t224.length co17)).setCell ⟨gb230, 1, none⟩ (.int .i64 t227)).setCell ⟨gb230, 2, none⟩ (.int .i64 t228)) w.heap.size (fun k_ => (P0_ k_ ∨ w.heap.size ≤ k_) ∧ k_ ≠ gb222 ∧ k_ ≠ gb230) (.slice (some ad221) l0.length c0) l0) := ⟨by exact Kd.V_mono (vf3_ (Kd.V_mono HO_14.out (fun k_ hk => (⟨hk, hk.2⟩ : _ ∧ k_ ≠ gb230))) (fun _ hk => hk.2)) (fun _ hk => ⟨hk.1.1.1, ⟨hk.1.1.2, hk.1.2⟩⟩)⟩
                    have n2_ : Aside0 (Kd.V (Kd.int .i64) 3 (((w16.setCell ⟨gb230, 0, none⟩ (.slice Ao17 t224.length co17)).setCell ⟨gb230, 1, none⟩ (.int .i64 t227)).setCell ⟨gb230, 2, none⟩ (.int .i64 t228)) w.heap.size (fun k_ => (P0_ k_ ∨ w.heap.size ≤ k_) ∧ k_ ≠ gb222 ∧ k_ ≠ gb230) (.slice Ao14 x223003_2.length co14) x223003_2) := ⟨by exact Kd.V_mono (vf3_ (Kd.V_mono HO_223003.out (fun k_ hk => (⟨hk, hk.2⟩ : _ ∧ k_ ≠ gb230))) (fun _ hk => hk.2)) (fun _ hk => ⟨hk.1.1.1, ⟨hk.1.1.2, hk.1.2⟩⟩)⟩
                    have n3_ : Aside0 (Kd.V (Kd.int .i64) 3 (((w16.setCell ⟨gb230, 0, none⟩ (.slice Ao17 t224.length co17)).setCell ⟨gb230, 1, none⟩ (.int .i64 t227)).setCell ⟨gb230, 2, none⟩ (.int .i64 t228)) w.heap.size (fun k_ => (P0_ k_ ∨ w.heap.size ≤ k_) ∧ k_ ≠ gb222 ∧ k_ ≠ gb230) u223006 x223006_2) := ⟨by exact Kd.V_mono (vf3_ (Kd.V_mono HO_223006.out (fun k_ hk => (⟨hk, hk.2⟩ : _ ∧ k_ ≠ gb230))) (fun _ hk => hk.2)) (fun _ hk => ⟨hk.1.1.1, ⟨hk.1.1.2, hk.1.2⟩⟩)⟩
                    have n4_ : Aside0 (Kd.V (Kd.int .i64) 3 (((w16.setCell ⟨gb230, 0, none⟩ (.slice Ao17 t224.length co17)).setCell ⟨gb230, 1, none⟩ (.int .i64 t227)).setCell ⟨gb230, 2, none⟩ (.int .i64 t228)) w.heap.size (fun k_ => (P0_ k_ ∨ w.heap.size ≤ k_) ∧ k_ ≠ gb222 ∧ k_ ≠ gb230) (.slice Ao17 t224.length co17) t224) := ⟨by exact Kd.V_mono (vf3_ (Kd.V_mono HO226.out (fun k_ hk => (⟨hk, hk.2⟩ : _ ∧ k_ ≠ gb230))) (fun _ hk => hk.2)) (fun _ hk => ⟨hk.1.1.1, ⟨hk.1.1.2, hk.1.2⟩⟩)⟩
                    have n5_ : Aside0 ((((w16.setCell ⟨gb230, 0, none⟩ (.slice Ao17 t224.length co17)).setCell ⟨gb230, 1, none⟩ (.int .i64 t227)).setCell ⟨gb230, 2, none⟩ (.int .i64 t228)).heap[gb222]? = some (.cells #[.int .i64 ((rd_T76 l0 x16_1).f0.f0), .int .i64 ((rd_T76 l0 x16_1).f0.f1), .int .i64 ((rd_T76 l0 x16_1).f0.f2), .slice Ao14 x223003_2.length co14, .int .i64 x223004_2, .int .i64 x223005_2, u223006, .int .i64 x223007_2, .int .i64 x223008_2] 76 (0, 0))) := ⟨by refine blk_far ?_ NB222_230.out _; refine blk_far ?_ NB222_230.out _; refine blk_far ?_ NB222_230.out _; exact BK222.out⟩
                    have n6_ : Aside0 ((((w16.setCell ⟨gb230, 0, none⟩ (.slice Ao17 t224.length co17)).setCell ⟨gb230, 1, none⟩ (.int .i64 t227)).setCell ⟨gb230, 2, none⟩ (.int .i64 t228)).heap[gb230]? = some (.cells #[.slice Ao17 t224.length co17, .int .i64 t227, .int .i64 t228] 24 (0, 0))) := ⟨by exact bp3_ BK230.out⟩
                    have n7_ : Aside0 (Below w.heap.size w (((w16.setCell ⟨gb230, 0, none⟩ (.slice Ao17 t224.length co17)).setCell ⟨gb230, 1, none⟩ (.int .i64 t227)).setCell ⟨gb230, 2, none⟩ (.int .i64 t228))) := ⟨by repeat ((with_reducible first | exact HB.out | refine below_set ?_ GE230.out))⟩
                    (try clear HO_3)
                    (try clear HO_14)
                    (try clear HO_223003)
                    (try clear HO_223006)
                    (try clear HO226)
                    (try clear BK222)
                    (try clear BK230)
                    (try clear HB)
                    generalize (((w16.setCell ⟨gb230, 0, none⟩ (.slice Ao17 t224.length co17)).setCell ⟨gb230, 1, none⟩ (.int .i64 t227)).setCell ⟨gb230, 2, none⟩ (.int .i64 t228)) = w20 at n0_ n1_ n2_ n3_ n4_ n5_ n6_ n7_ ⊢
                    have HO_3 := n0_
                    have HO_14 := n1_
                    have HO_223003 := n2_
                    have HO_223006 := n3_
                    have HO226 := n4_
                    have BK222 := n5_
                    have BK230 := n6_
                    have HB := n7_
                    clear n0_ n1_ n2_ n3_ n4_ n5_ n6_ n7_
                    have n0_ := Aside0.mk (Kd.V_drew HO_3.out)
                    have n1_ := Aside0.mk (Kd.V_drew HO_14.out)
                    have n2_ := Aside0.mk (Kd.V_drew HO_223003.out)
                    have n3_ := Aside0.mk (Kd.V_drew HO_223006.out)
                    have n4_ := Aside0.mk (Kd.V_drew HO226.out)
                    have n5_ := Aside0.mk (blk_drew BK222.out)
                    have n6_ := Aside0.mk (blk_drew BK230.out)
                    have n7_ := Aside0.mk (below_drew1 HB.out)
                    clear HO_3 HO_14 HO_223003 HO_223006 HO226 BK222 BK230 HB; have HO_3 := n0_; have HO_14 := n1_; have HO_223003 := n2_; have HO_223006 := n3_; have HO226 := n4_; have BK222 := n5_; have BK230 := n6_; have HB := n7_; clear n0_ n1_ n2_ n3_ n4_ n5_ n6_ n7_
                    obtain ⟨Ao22, co22, eo22⟩ := Kd.V_slice HO_223006.out
                    ((subst eo22))
                    refine start_ (n := 9) (S := fun w' => w'.cell? ⟨gb230, 0, none⟩ = some (.slice Ao17 t224.length co17) ∧ w'.cell? ⟨gb230, 1, none⟩ = some (.int .i64 t227) ∧ w'.cell? ⟨gb230, 2, none⟩ = some (.int .i64 t228) ∧ w'.cell? ⟨gb222, 0, none⟩ = some (.int .i64 ((rd_T76 l0 x16_1).f0.f0)) ∧ w'.cell? ⟨gb222, 1, none⟩ = some (.int .i64 ((rd_T76 l0 x16_1).f0.f1)) ∧ w'.cell? ⟨gb222, 2, none⟩ = some (.int .i64 ((rd_T76 l0 x16_1).f0.f2)) ∧ w'.cell? ⟨gb222, 3, none⟩ = some (.slice Ao14 x223003_2.length co14) ∧ w'.cell? ⟨gb222, 4, none⟩ = some (.int .i64 x223004_2) ∧ w'.cell? ⟨gb222, 5, none⟩ = some (.int .i64 x223005_2) ∧ w'.cell? ⟨gb222, 6, none⟩ = some (.slice Ao22 x223006_2.length co22) ∧ w'.cell? ⟨gb222, 7, none⟩ = some (.int .i64 x223007_2) ∧ w'.cell? ⟨gb222, 8, none⟩ = some (.int .i64 x223008_2)) (ds := [6, 8]) #[false, false, false, false, false, false, false, false, false] (by kernel_rfl) rfl rfl ⟨(blk_cell BK230.out 0).trans rfl, (blk_cell BK230.out 1).trans rfl, (blk_cell BK230.out 2).trans rfl, (blk_cell BK222.out 0).trans rfl, (blk_cell BK222.out 1).trans rfl, (blk_cell BK222.out 2).trans rfl, (blk_cell BK222.out 3).trans rfl, (blk_cell BK222.out 4).trans rfl, (blk_cell BK222.out 5).trans rfl, (blk_cell BK222.out 6).trans rfl, (blk_cell BK222.out 7).trans rfl, (blk_cell BK222.out 8).trans rfl⟩ (fun hHeld => ?_); refine with_tabW port_Deliver.tab10 port_Deliver.bits10 (fun HT_ HW_ => ?_)
                    generalize w20.drew = w21 at HO_3 HO_14 HO_223003 HO_223006 HO226 BK222 BK230 HB hHeld ⊢
                    refine pa_ 1 34 (bm 9 0x2) HT_ (h := ?_)
                    refine pa_ 3 36 (bm 9 0xa) HT_ (h := ?_)
                    refine take_ (i := 0) (N := some 33) (v := ?_) (a' := ?_) (bm 9 0xb) rfl rfl (take_ofW HT_.out HW_.out (by kernel_rfl)) (fun _ _ _ h => h) (Or.inl ⟨by rfl, ?_⟩) hHeld ?_ ?_
                    rotate_left
                    · rintro w' ⟨s0, s1, s2, s3, s4, s5, s6, s7, s8, s9, s10, s11⟩
                      go_simp
                      with_reducible rfl
                    rotate_left
                    · simp only [Act.put, List.setIfInBounds_toArray, List.set_cons_zero, List.set_cons_succ, i64_w, i32_w]
                      rfl
                    refine take_ (i := 2) (N := some 35) (v := ?_) (a' := ?_) (bm 9 0xf) rfl rfl (take_ofW HT_.out HW_.out (by kernel_rfl)) (fun _ _ _ h => h) (Or.inl ⟨by rfl, ?_⟩) hHeld ?_ ?_
                    rotate_left
                    · rintro w' ⟨s0, s1, s2, s3, s4, s5, s6, s7, s8, s9, s10, s11⟩
                      go_simp
                      with_reducible rfl
                    rotate_left
                    · simp only [Act.put, List.setIfInBounds_toArray, List.set_cons_zero, List.set_cons_succ, i64_w, i32_w]
                      rfl
                    refine pa_ 5 38 (bm 9 0x2f) HT_ (h := ?_)
                    refine one_ (i := 4) (N := some 37) (bm 9 0x3f) rfl rfl (one_of HT_.out (by kernel_rfl)) (by decide) (fun K hK => ?_)
                    refine goes_ Try.func25 (by kernel_rfl) rfl #[.agg #[.slice Ao22 x223006_2.length co22, .int .i64 x223007_2, .int .i64 x223008_2], .int .i64 t223] (by rfl) rfl rfl (by (try simp only [List.map_toArray, List.map_cons, List.map_nil]); rfl) ?_
                    with_reducible refine (ring_Put.calls (fun k_ => ((P0_ k_ ∨ w.heap.size ≤ k_) ∧ (k_ ≠ gb222 ∧ k_ ≠ gb230))) _ _ x223006_2 x223007_2 x223008_2 t223 t231 t234 t235 _ ?side1 A12.out).mono ?_
                    (case side1 => exact HO_223006.out)
                    rintro e w23 ⟨v232, rfl, ho0, hb⟩
                    refine ⟨_, rfl, ?_⟩
                    have n5_ := Aside0.mk (Kd.V_lower (Kd.V_mono (ok' := fun k_ => (P0_ k_ ∨ w.heap.size ≤ k_) ∧ k_ ≠ gb222 ∧ k_ ≠ gb230) ho0 (fun k_ hk_ => ⟨Or.elim hk_ (fun hs_ => hs_.1) (fun hn_ => (.inr (Nat.le_trans (below_size HB.out) hn_))), Or.elim hk_ (fun hs_ => hs_.2.1) (fun hn_ => (Kd.freshB BK222.out k_ hn_)), Or.elim hk_ (fun hs_ => hs_.2.2) (fun hn_ => (Kd.freshB BK230.out k_ hn_))⟩)) (below_size HB.out))
                    have HO233 := n5_; clear n5_; replace HO_3 := vb_ HO_3 hb; replace HO_14 := vb_ HO_14 hb; replace HO_223003 := vb_ HO_223003 hb; replace HO_223006 := vb_ HO_223006 hb; replace HO226 := vb_ HO226 hb; replace BK222 := kb_ BK222 hb; replace BK230 := kb_ BK230 hb; replace HB := hb_ HB hb
                    (try clear hb)
                    (try clear hb2)
                    (try clear hk)
                    (try clear hi)
                    (try clear ho0)
                    obtain ⟨Ao27, co27, eo27⟩ := Kd.V_slice HO233.out
                    ((subst eo27))
                    refine hK.out _ _ ⟨(blk_cell BK230.out 0).trans rfl, (blk_cell BK230.out 1).trans rfl, (blk_cell BK230.out 2).trans rfl, (blk_cell BK222.out 0).trans rfl, (blk_cell BK222.out 1).trans rfl, (blk_cell BK222.out 2).trans rfl, (blk_cell BK222.out 3).trans rfl, (blk_cell BK222.out 4).trans rfl, (blk_cell BK222.out 5).trans rfl, (blk_cell BK222.out 6).trans rfl, (blk_cell BK222.out 7).trans rfl, (blk_cell BK222.out 8).trans rfl⟩ (fun hHeld => ?_)
                    clear hK K
                    refine nm_ 37 (h := ?_)
                    refine last_ (i := 6) (N := none) (bm 9 0x7f) rfl rfl (one_of HT_.out (by kernel_rfl)) (by decide) (fun K hK => ?_)
                    have hs24 : w23.cell? ⟨gb222, 3, none⟩ = some (.slice Ao14 x223003_2.length co14) := (blk_cell BK222.out 3).trans rfl
                    have hfs24 := blk_frozen BK222.out 3
                    have hns24_1 := NB230_222.out
                    have hms24_1 := NB222_230.out
                    have hs25 : w23.cell? ⟨gb222, 4, none⟩ = some (.int .i64 x223004_2) := (blk_cell BK222.out 4).trans rfl
                    have hfs25 := blk_frozen BK222.out 4
                    have hns25_1 := NB230_222.out
                    have hms25_1 := NB222_230.out
                    have hs26 : w23.cell? ⟨gb222, 5, none⟩ = some (.int .i64 x223005_2) := (blk_cell BK222.out 5).trans rfl
                    have hfs26 := blk_frozen BK222.out 5
                    have hns26_1 := NB230_222.out
                    have hms26_1 := NB222_230.out
                    refine skip_ (w1 := ?_) (by rfl) rfl ?_ ?_
                    rotate_left
                    · go_simp
                      rfl
                    refine hK.out _ _ ?_
                    clear hK K
                    refine pa_ 7 39 (bm 9 0xff) HT_ (h := ?_)
                    refine last_ (i := 8) (N := none) (bm 9 0x1ff) rfl rfl (one_of HT_.out (by kernel_rfl)) (by decide) (fun K hK => ?_)
                    have hs28 : w23.cell? ⟨gb222, 6, none⟩ = some (.slice Ao22 x223006_2.length co22) := (blk_cell BK222.out 6).trans rfl
                    have hfs28 := blk_frozen BK222.out 6
                    have hns28_1 := NB230_222.out
                    have hms28_1 := NB222_230.out
                    have hs29 : w23.cell? ⟨gb222, 7, none⟩ = some (.int .i64 x223007_2) := (blk_cell BK222.out 7).trans rfl
                    have hfs29 := blk_frozen BK222.out 7
                    have hns29_1 := NB230_222.out
                    have hms29_1 := NB222_230.out
                    have hs30 : w23.cell? ⟨gb222, 8, none⟩ = some (.int .i64 x223008_2) := (blk_cell BK222.out 8).trans rfl
                    have hfs30 := blk_frozen BK222.out 8
                    have hns30_1 := NB230_222.out
                    have hms30_1 := NB222_230.out
                    refine skip_ (w1 := ?_) (by rfl) rfl ?_ ?_
                    rotate_left
                    · go_simp
                      rfl
                    refine hK.out _ _ ?_
                    clear hK K
                    refine done_ (done_of HT_.out (by kernel_rfl)) ?_
                    try go_wp2
                    go_roundg k2
                    case measure => have := HK1.out; have := HK2.out; omega
                    case rel => exact ⟨(wrap64 (x24_2 + 1)), (t224), (t227), (t228), (t231), (t234), (t235), (.slice Ao17 t224.length co17), (.slice Ao27 t231.length co27), (by rfl), H', ⟨by have := HK1.out; have := HK2.out; omega⟩, ⟨by exact Kd.V_mono (Kd.V_far (p := ⟨gb222, 8, none⟩) (Kd.V_far (p := ⟨gb222, 7, none⟩) (Kd.V_far (p := ⟨gb222, 6, none⟩) (Kd.V_far (p := ⟨gb222, 5, none⟩) (Kd.V_far (p := ⟨gb222, 4, none⟩) (Kd.V_far (p := ⟨gb222, 3, none⟩) (Kd.V_mono HO_3.out (fun k_ hk => (⟨hk, hk.2.1⟩ : _ ∧ k_ ≠ gb222))) (fun _ hk => hk.2) (.slice Ao17 t224.length co17)) (fun _ hk => hk.2) (.int .i64 t227)) (fun _ hk => hk.2) (.int .i64 t228)) (fun _ hk => hk.2) (.slice Ao27 t231.length co27)) (fun _ hk => hk.2) (.int .i64 t234)) (fun _ hk => hk.2) (.int .i64 t235)) (fun _ hk => ⟨hk.1.1, hk.1.2.1⟩)⟩, ⟨by exact Kd.V_mono (Kd.V_far (p := ⟨gb222, 8, none⟩) (Kd.V_far (p := ⟨gb222, 7, none⟩) (Kd.V_far (p := ⟨gb222, 6, none⟩) (Kd.V_far (p := ⟨gb222, 5, none⟩) (Kd.V_far (p := ⟨gb222, 4, none⟩) (Kd.V_far (p := ⟨gb222, 3, none⟩) (Kd.V_mono HO_14.out (fun k_ hk => (⟨hk, hk.2.1⟩ : _ ∧ k_ ≠ gb222))) (fun _ hk => hk.2) (.slice Ao17 t224.length co17)) (fun _ hk => hk.2) (.int .i64 t227)) (fun _ hk => hk.2) (.int .i64 t228)) (fun _ hk => hk.2) (.slice Ao27 t231.length co27)) (fun _ hk => hk.2) (.int .i64 t234)) (fun _ hk => hk.2) (.int .i64 t235)) (fun _ hk => ⟨hk.1.1, hk.1.2.1⟩)⟩, ⟨by exact Kd.V_mono (Kd.V_far (p := ⟨gb222, 8, none⟩) (Kd.V_far (p := ⟨gb222, 7, none⟩) (Kd.V_far (p := ⟨gb222, 6, none⟩) (Kd.V_far (p := ⟨gb222, 5, none⟩) (Kd.V_far (p := ⟨gb222, 4, none⟩) (Kd.V_far (p := ⟨gb222, 3, none⟩) (Kd.V_mono HO226.out (fun k_ hk => (⟨hk, hk.2.1⟩ : _ ∧ k_ ≠ gb222))) (fun _ hk => hk.2) (.slice Ao17 t224.length co17)) (fun _ hk => hk.2) (.int .i64 t227)) (fun _ hk => hk.2) (.int .i64 t228)) (fun _ hk => hk.2) (.slice Ao27 t231.length co27)) (fun _ hk => hk.2) (.int .i64 t234)) (fun _ hk => hk.2) (.int .i64 t235)) (fun _ hk => ⟨hk.1.1, hk.1.2.1⟩)⟩, ⟨by exact Kd.V_mono (Kd.V_far (p := ⟨gb222, 8, none⟩) (Kd.V_far (p := ⟨gb222, 7, none⟩) (Kd.V_far (p := ⟨gb222, 6, none⟩) (Kd.V_far (p := ⟨gb222, 5, none⟩) (Kd.V_far (p := ⟨gb222, 4, none⟩) (Kd.V_far (p := ⟨gb222, 3, none⟩) (Kd.V_mono HO233.out (fun k_ hk => (⟨hk, hk.2.1⟩ : _ ∧ k_ ≠ gb222))) (fun _ hk => hk.2) (.slice Ao17 t224.length co17)) (fun _ hk => hk.2) (.int .i64 t227)) (fun _ hk => hk.2) (.int .i64 t228)) (fun _ hk => hk.2) (.slice Ao27 t231.length co27)) (fun _ hk => hk.2) (.int .i64 t234)) (fun _ hk => hk.2) (.int .i64 t235)) (fun _ hk => ⟨hk.1.1, hk.1.2.1⟩)⟩, ⟨by refine blk_put (cs := #[.int .i64 ((rd_T76 l0 x16_1).f0.f0), .int .i64 ((rd_T76 l0 x16_1).f0.f1), .int .i64 ((rd_T76 l0 x16_1).f0.f2), .slice Ao17 t224.length co17, .int .i64 t227, .int .i64 t228, .slice Ao27 t231.length co27, .int .i64 t234, .int .i64 x223008_2]) ?_ 8 _ rfl; refine blk_put (cs := #[.int .i64 ((rd_T76 l0 x16_1).f0.f0), .int .i64 ((rd_T76 l0 x16_1).f0.f1), .int .i64 ((rd_T76 l0 x16_1).f0.f2), .slice Ao17 t224.length co17, .int .i64 t227, .int .i64 t228, .slice Ao27 t231.length co27, .int .i64 x223007_2, .int .i64 x223008_2]) ?_ 7 _ rfl; refine blk_put (cs := #[.int .i64 ((rd_T76 l0 x16_1).f0.f0), .int .i64 ((rd_T76 l0 x16_1).f0.f1), .int .i64 ((rd_T76 l0 x16_1).f0.f2), .slice Ao17 t224.length co17, .int .i64 t227, .int .i64 t228, .slice Ao22 x223006_2.length co22, .int .i64 x223007_2, .int .i64 x223008_2]) ?_ 6 _ rfl; refine blk_put (cs := #[.int .i64 ((rd_T76 l0 x16_1).f0.f0), .int .i64 ((rd_T76 l0 x16_1).f0.f1), .int .i64 ((rd_T76 l0 x16_1).f0.f2), .slice Ao17 t224.length co17, .int .i64 t227, .int .i64 x223005_2, .slice Ao22 x223006_2.length co22, .int .i64 x223007_2, .int .i64 x223008_2]) ?_ 5 _ rfl; refine blk_put (cs := #[.int .i64 ((rd_T76 l0 x16_1).f0.f0), .int .i64 ((rd_T76 l0 x16_1).f0.f1), .int .i64 ((rd_T76 l0 x16_1).f0.f2), .slice Ao17 t224.length co17, .int .i64 x223004_2, .int .i64 x223005_2, .slice Ao22 x223006_2.length co22, .int .i64 x223007_2, .int .i64 x223008_2]) ?_ 4 _ rfl; refine blk_put (cs := #[.int .i64 ((rd_T76 l0 x16_1).f0.f0), .int .i64 ((rd_T76 l0 x16_1).f0.f1), .int .i64 ((rd_T76 l0 x16_1).f0.f2), .slice Ao14 x223003_2.length co14, .int .i64 x223004_2, .int .i64 x223005_2, .slice Ao22 x223006_2.length co22, .int .i64 x223007_2, .int .i64 x223008_2]) ?_ 3 _ rfl; exact BK222.out⟩, ⟨by repeat ((with_reducible first | exact HB.out | refine below_set ?_ GE222.out))⟩⟩
                  · rw [if_neg c10] at H
                    have c10b0 : decide (x24_2 < ((rd_T76 l0 x16_1).f1.f2)) = false := decide_eq_false c10
                    clear c10
                    replace H := Option.bind_eq_some_iff.mp H
                    obtain ⟨t236, A310, H⟩ := H
                    replace H : (port_Deliver.l0 k2 t236 l0 (l0.length : Int) (wrap64 (x16_1 + 1))) = some r := H
                    have A31 := Aside0.mk A310
                    clear A310
                    have H' := Aside0.mk H
                    clear H
                    obtain ⟨_, _, _, _, _, _, _, _, _, _, _, _, _, _, _, _, _, _⟩ := bk9_ BK222.out
                    obtain ⟨Ao33, co33, eo33⟩ := Kd.V_slice HO_3.out
                    subst eo33
                    obtain ⟨Ao34, co34, eo34⟩ := Kd.V_slice HO_223003.out
                    subst eo34
                    obtain ⟨Ao35, co35, eo35⟩ := Kd.V_slice HO_223006.out
                    subst eo35
                    go_wp2_with (((with_reducible refine gate_callee (f := 44) rfl ?_); refine goesL_ (some 44) rfl rfl Try.func44 (by kernel_rfl) rfl #[.slice Ao33 x3_1.length co33, .int .i64 x16_1, .agg #[.int .i64 ((rd_T76 l0 x16_1).f0.f0), .int .i64 ((rd_T76 l0 x16_1).f0.f1), .int .i64 ((rd_T76 l0 x16_1).f0.f2), .slice Ao34 x223003_2.length co34, .int .i64 x223004_2, .int .i64 x223005_2, .slice Ao35 x223006_2.length co35, .int .i64 x223007_2, .int .i64 x223008_2]] rfl (by (try simp only [List.map_toArray, List.map_cons, List.map_nil]); rfl) ?_; (with_reducible refine (port_with.calls (fun k_ => ((P0_ k_ ∨ w.heap.size ≤ k_) ∧ k_ ≠ gb222)) _ _ x3_1 x16_1 ((rd_T76 l0 x16_1).f0.f0) ((rd_T76 l0 x16_1).f0.f1) ((rd_T76 l0 x16_1).f0.f2) (fun k_ => ((P0_ k_ ∨ w.heap.size ≤ k_) ∧ k_ ≠ gb222)) _ _ x223003_2 x223004_2 x223005_2 (fun k_ => ((P0_ k_ ∨ w.heap.size ≤ k_) ∧ k_ ≠ gb222)) _ _ x223006_2 x223007_2 x223008_2 t236 _ ?side1 ?side2 ?side3 A31.out).mono ?_); (case side1 => exact HO_3.out); (case side2 => exact HO_223003.out); (case side3 => exact HO_223006.out); rintro e w36 ⟨v237, rfl, ho0, hb⟩; refine ⟨_, rfl, ?_⟩; have n0_ := Aside0.mk (Kd.V_elder' HO_3.out (by (exact Kd.N_base ho0)) hb); have n1_ := Aside0.mk (Kd.V_elder' HO_14.out (by (exact Kd.N_base ho0)) hb); have n2_ := Aside0.mk (Kd.V_elder' HO_223003.out (by (exact Kd.N_base ho0)) hb); have n3_ := Aside0.mk (Kd.V_elder' HO_223006.out (by (exact Kd.N_base ho0)) hb); have n4_ := Aside0.mk (Kd.N_lower (Kd.N_mono (ok' := fun k_ => (P0_ k_ ∨ w.heap.size ≤ k_) ∧ k_ ≠ gb222) ho0 (fun k_ hk_ => ⟨Or.elim hk_ (fun hs_ => Or.elim hs_ (fun hs_ => hs_.1) (fun hs_ => Or.elim hs_ (fun hs_ => hs_.1) (fun hs_ => hs_.1))) (fun hn_ => (.inr (Nat.le_trans (below_size HB.out) hn_))), Or.elim hk_ (fun hs_ => Or.elim hs_ (fun hs_ => hs_.2) (fun hs_ => Or.elim hs_ (fun hs_ => hs_.2) (fun hs_ => hs_.2))) (fun hn_ => (Kd.freshB BK222.out k_ hn_))⟩)) (below_size HB.out)); clear HO_3 HO_14 HO_223003 HO_223006; have HO_3 := n0_; have HO_14 := n1_; have HO_223003 := n2_; have HO_223006 := n3_; have HO238 := n4_; clear n0_ n1_ n2_ n3_ n4_; replace BK222 := kb_ BK222 hb; replace HB := hb_ HB hb; (try clear hb); (try clear hb2); (try clear hk); (try clear hi); (try clear ho0)))
                    go_roundg k2
                    case measure => have := HK1.out; have := HK2.out; omega
                    case rel => exact ⟨(t236), (wrap64 (x16_1 + 1)), (by rfl), H', ⟨by have := HK1.out; have := HK2.out; omega⟩, ⟨Kd.N_V (by exact Kd.N_mono HO238.out (fun _ hk => hk.1))⟩, ⟨by exact Kd.V_mono HO_14.out (fun _ hk => hk.1.1)⟩, ⟨HB.out⟩⟩
            · rw [if_neg c7] at H
              exact absurd H (by simp)
          · rw [if_neg c6] at H
            exact absurd H (by simp)
        · rw [if_neg c5] at H
          have c5b0 : decide (x16_1 < (l0.length : Int)) = false := decide_eq_false c5
          clear c5
          obtain rfl := Option.some.inj H
          go_wp2
          go_ret
          exact ⟨_, by rfl, by exact HO_3.out, by repeat ((with_reducible (exact HB.out)))⟩
  · replace c3 := Bool.eq_false_iff.mpr c3
    subst c3
    have H1 : (some l0) = some r := by rw [if_neg (show ¬ (false = true) by decide)] at H; exact H
    clear H
    have H := H1
    clear H1
    obtain rfl := Option.some.inj H
    go_enter Try.func30, Try.ntmps30
    go_wp2_with (((with_reducible refine gate_callee (f := 31) rfl ?_); refine goesL_ (some 10) rfl rfl Try.func31 (by kernel_rfl) rfl #[.slice A0 l0.length c0] rfl (by (try simp only [List.map_toArray, List.map_cons, List.map_nil]); rfl) ?_; (with_reducible refine (port_Right.calls k _ _ l0 false _ ?side1 ?side2 A2.out).mono ?_); (case side1 => repeat ((exact (Kd.V_reads' HO0.out).2.2))); (case side2 => exact (Kd.V_reads' HO0.out).2.1); rintro e w37 ⟨rfl, hb⟩; refine ⟨_, rfl, ?_⟩; replace HO0 := vb_ HO0 hb; replace HB := hb_ HB hb; (try clear hb); (try clear hb2); (try clear hk); (try clear hi)))
    go_ret
    exact ⟨_, by rfl, by exact HO0.out, by repeat ((with_reducible (exact HB.out)))⟩

/-! ### remontoirlaw18_knows: function 27 -/
def remontoirlaw18_knows.f (k : Nat)  : Option (Bool) := (port_Open.f k (([(⟨0, 1, 2⟩ : S51)] : List (S51)))).bind fun bt242 => ((port_Send.f k bt242.1 0 0 7).bind fun bt246 => ((port_Read.f k bt246.1 1 0).bind fun bt250 => ((port_Deliver.f k bt246.1).bind fun t255 => ((port_Read.f k t255 1 0).bind fun bt258 => (if bt242.2 = 0 then (if bt246.2 = 0 then (if bt250.2.2 = 4 then (if bt258.1 = 7 then (if bt258.2.2 = 0 then ((port_Right.f k bt246.1).bind fun t263 => (some t263)) else (some false)) else (some false)) else (some false)) else (some false)) else (some false))))))
theorem remontoirlaw18_knows.mono : ∀ k, LeO (remontoirlaw18_knows.f k ) (remontoirlaw18_knows.f (k + 1) ) := by
  intro  k
  unfold remontoirlaw18_knows.f
  repeat' first | (with_reducible exact port_Deliver.mono _ _) | (with_reducible exact port_Open.mono _ _) | (with_reducible exact port_Read.mono _ _ _ _) | (with_reducible exact port_Right.mono _ _) | (with_reducible exact port_Send.mono _ _ _ _ _) | (with_reducible exact LeO.refl _) | (with_reducible refine LeO.ite ?_ ?_) | (with_reducible refine LeO.bind ?_ (fun _ => ?_))
set_option maxHeartbeats 8000000 in
set_option maxRecDepth 100000 in
theorem remontoirlaw18_knows.calls (k : Nat)  (r : Bool) (w : World) (h : remontoirlaw18_knows.f k  = some r) :
    Calls Try.prog 27 #[] w fun e w' => e = .returned (.bool r) ∧ Below w.heap.size w w' := by
  have hu51 := Try.underlying51
  have HB := Aside0.mk (Below.refl w.heap.size w)
  have H : ((port_Open.f k (([(⟨0, 1, 2⟩ : S51)] : List (S51)))).bind fun bt242 => ((port_Send.f k bt242.1 0 0 7).bind fun bt246 => ((port_Read.f k bt246.1 1 0).bind fun bt250 => ((port_Deliver.f k bt246.1).bind fun t255 => ((port_Read.f k t255 1 0).bind fun bt258 => (if bt242.2 = 0 then (if bt246.2 = 0 then (if bt250.2.2 = 4 then (if bt258.1 = 7 then (if bt258.2.2 = 0 then ((port_Right.f k bt246.1).bind fun t263 => (some t263)) else (some false)) else (some false)) else (some false)) else (some false)) else (some false))))))) = some r := h
  clear h
  obtain ⟨y239, hy239⟩ : ∃ y_ : List (S51), y_ = (([(⟨0, 1, 2⟩ : S51)] : List (S51))) := ⟨_, rfl⟩
  replace H : ((port_Open.f k y239).bind fun bt242 => ((port_Send.f k bt242.1 0 0 7).bind fun bt246 => ((port_Read.f k bt246.1 1 0).bind fun bt250 => ((port_Deliver.f k bt246.1).bind fun t255 => ((port_Read.f k t255 1 0).bind fun bt258 => (if bt242.2 = 0 then (if bt246.2 = 0 then (if bt250.2.2 = 4 then (if bt258.1 = 7 then (if bt258.2.2 = 0 then ((port_Right.f k bt246.1).bind fun t263 => (some t263)) else (some false)) else (some false)) else (some false)) else (some false)) else (some false))))))) = some r := by (rw [hy239]; with_reducible exact H)
  have Ny239 := Aside0.mk hy239
  clear hy239
  replace H := Option.bind_eq_some_iff.mp H
  obtain ⟨⟨t242, t243⟩, A10, H⟩ := H
  replace H : ((port_Send.f k t242 0 0 7).bind fun bt246 => ((port_Read.f k bt246.1 1 0).bind fun bt250 => ((port_Deliver.f k bt246.1).bind fun t255 => ((port_Read.f k t255 1 0).bind fun bt258 => (if t243 = 0 then (if bt246.2 = 0 then (if bt250.2.2 = 4 then (if bt258.1 = 7 then (if bt258.2.2 = 0 then ((port_Right.f k bt246.1).bind fun t263 => (some t263)) else (some false)) else (some false)) else (some false)) else (some false)) else (some false)))))) = some r := H
  have A1 := Aside0.mk A10
  clear A10
  replace H := Option.bind_eq_some_iff.mp H
  obtain ⟨⟨t246, t249⟩, A20, H⟩ := H
  replace H : ((port_Read.f k t246 1 0).bind fun bt250 => ((port_Deliver.f k t246).bind fun t255 => ((port_Read.f k t255 1 0).bind fun bt258 => (if t243 = 0 then (if t249 = 0 then (if bt250.2.2 = 4 then (if bt258.1 = 7 then (if bt258.2.2 = 0 then ((port_Right.f k t246).bind fun t263 => (some t263)) else (some false)) else (some false)) else (some false)) else (some false)) else (some false))))) = some r := H
  have A2 := Aside0.mk A20
  clear A20
  replace H := Option.bind_eq_some_iff.mp H
  obtain ⟨⟨t250, t251, t254⟩, A30, H⟩ := H
  replace H : ((port_Deliver.f k t246).bind fun t255 => ((port_Read.f k t255 1 0).bind fun bt258 => (if t243 = 0 then (if t249 = 0 then (if t254 = 4 then (if bt258.1 = 7 then (if bt258.2.2 = 0 then ((port_Right.f k t246).bind fun t263 => (some t263)) else (some false)) else (some false)) else (some false)) else (some false)) else (some false)))) = some r := H
  have A3 := Aside0.mk A30
  clear A30
  replace H := Option.bind_eq_some_iff.mp H
  obtain ⟨t255, A40, H⟩ := H
  replace H : ((port_Read.f k t255 1 0).bind fun bt258 => (if t243 = 0 then (if t249 = 0 then (if t254 = 4 then (if bt258.1 = 7 then (if bt258.2.2 = 0 then ((port_Right.f k t246).bind fun t263 => (some t263)) else (some false)) else (some false)) else (some false)) else (some false)) else (some false))) = some r := H
  have A4 := Aside0.mk A40
  clear A40
  replace H := Option.bind_eq_some_iff.mp H
  obtain ⟨⟨t258, t259, t262⟩, A50, H⟩ := H
  replace H : (if t243 = 0 then (if t249 = 0 then (if t254 = 4 then (if t258 = 7 then (if t262 = 0 then ((port_Right.f k t246).bind fun t263 => (some t263)) else (some false)) else (some false)) else (some false)) else (some false)) else (some false)) = some r := H
  have A5 := Aside0.mk A50
  clear A50
  by_cases c6 : t243 = 0
  · rw [if_pos c6] at H
    have c6b0 : (t243 == 0) = true := beq_iff_eq.mpr c6
    have c6b1 : (t243 != 0) = false := bne_eq_false_iff_eq.mpr c6
    clear c6
    by_cases c7 : t249 = 0
    · rw [if_pos c7] at H
      have c7b0 : (t249 == 0) = true := beq_iff_eq.mpr c7
      have c7b1 : (t249 != 0) = false := bne_eq_false_iff_eq.mpr c7
      clear c7
      by_cases c8 : t254 = 4
      · rw [if_pos c8] at H
        have c8b0 : (t254 == 4) = true := beq_iff_eq.mpr c8
        have c8b1 : (t254 != 4) = false := bne_eq_false_iff_eq.mpr c8
        clear c8
        by_cases c9 : t258 = 7
        · rw [if_pos c9] at H
          have c9b0 : (t258 == 7) = true := beq_iff_eq.mpr c9
          have c9b1 : (t258 != 7) = false := bne_eq_false_iff_eq.mpr c9
          clear c9
          by_cases c10 : t262 = 0
          · rw [if_pos c10] at H
            have c10b0 : (t262 == 0) = true := beq_iff_eq.mpr c10
            have c10b1 : (t262 != 0) = false := bne_eq_false_iff_eq.mpr c10
            clear c10
            replace H := Option.bind_eq_some_iff.mp H
            obtain ⟨t263, A110, H⟩ := H
            replace H : (some t263) = some r := H
            have A11 := Aside0.mk A110
            clear A110
            obtain rfl := Option.some.inj H
            go_enter Try.func27, Try.ntmps27
            go_wp2_with (first | ((with_reducible refine gate_dst (N := 12) rfl ?_); refine Kd.R_lit k51 _ 51 ?hg (N := 12) ?hd (xs := ([(⟨0, 1, 2⟩ : S51)] : List (S51))) (inner := [.int .i64 0, .int .i64 1, .int .i64 2]) (ok := fun _ => True) (okp := fun _ => True) ?hr ?hp (fun _ hk => hk) trivial (Below.refl _ _) (Nat.le_refl _) (by simp) ?_; (case hd => rfl); (case hg => rfl); (case hr => (go_simp; done)); (case hp => exact (Reps.c3 (show Kd.M k51 _ _ _ (⟨0, 1, 2⟩ : S51) [.int .i64 0, .int .i64 1, .int .i64 2] from (k51_mkM _ _ _ (⟨0, 1, 2⟩ : S51) )) (Reps.none _ _))); intro v240 w12 ho13 hb hg_ hnew_; clear hg_ hnew_; ((rw [← Ny239.out] at ho13)); have n0_ := Aside0.mk (Kd.R_lower ho13 (below_size HB.out)); have HO241 := n0_; clear n0_; replace HB := hb_ HB hb; clear hb ho13; obtain ⟨Ao14, co14, eo14⟩ := Kd.R_slice HO241.out; subst eo14) | ((with_reducible refine gate_callee (f := 26) rfl ?_); refine goesL_ (some 13) rfl rfl Try.func26 (by kernel_rfl) rfl #[.slice Ao14 y239.length co14] rfl (by (try simp only [List.map_toArray, List.map_cons, List.map_nil]); rfl) ?_; (with_reducible refine (port_Open.calls k _ _ y239 t242 t243 _ ?side1 ?side2 A1.out).mono ?_); (case side1 => repeat ((exact (Kd.R_reads' HO241.out).2.2))); (case side2 => exact (Kd.R_reads' HO241.out).2.1); rintro e w15 ⟨v244, rfl, ho0, hb⟩; refine ⟨_, rfl, ?_⟩; have n1_ := Aside0.mk (Kd.S_lower ho0 (below_size HB.out)); have HO245 := n1_; clear n1_; replace HO241 := rb_ HO241 hb; replace HB := hb_ HB hb; (try clear hb); (try clear hb2); (try clear hk); (try clear hi); (try clear ho0); obtain ⟨Ao16, co16, eo16⟩ := Kd.S_slice HO245.out; subst eo16) | ((with_reducible refine gate_callee (f := 28) rfl ?_); refine goesL_ (some 18) rfl rfl Try.func28 (by kernel_rfl) rfl #[.slice Ao16 t242.length co16, .int .i64 0, .int .i64 0, .int .i64 7] rfl (by (try simp only [List.map_toArray, List.map_cons, List.map_nil]); rfl) ?_; (with_reducible refine (port_Send.calls k (fun k_ => (True ∧ some k_ ≠ (.slice Ao14 y239.length co14 : Value).ownBlock)) _ _ t242 0 0 7 t246 t249 _ ?side1 A2.out).mono ?_); (case side1 => exact Kd.S_V (Kd.S_apart' (HO245.out) (Kd.R_typed HO241.out) (by decide))); rintro e w17 ⟨v247, rfl, ho0, hb⟩; refine ⟨_, rfl, ?_⟩; have n2_ := Aside0.mk (Kd.V_lower (Kd.V_mono (ok' := fun k_ => some k_ ≠ (.slice Ao14 y239.length co14 : Value).ownBlock) ho0 (fun k_ hk_ => Or.elim hk_ (fun hs_ => hs_.2) (fun hn_ => (Kd.fresh' (Kd.R_lt HO241.out) k_ hn_)))) (below_size HB.out)); have HO248 := n2_; clear n2_; replace HO241 := rb_ HO241 hb; replace HO245 := sb_ HO245 hb; replace HB := hb_ HB hb; (try clear hb); (try clear hb2); (try clear hk); (try clear hi); (try clear ho0); obtain ⟨Ao18, co18, eo18⟩ := Kd.V_slice HO248.out; subst eo18) | ((with_reducible refine gate_callee (f := 29) rfl ?_); refine goesL_ (some 23) rfl rfl Try.func29 (by kernel_rfl) rfl #[.slice Ao18 t246.length co18, .int .i64 1, .int .i64 0] rfl (by (try simp only [List.map_toArray, List.map_cons, List.map_nil]); rfl) ?_; (with_reducible refine (port_Read.calls k (fun k_ => some k_ ≠ (.slice Ao14 y239.length co14 : Value).ownBlock) _ _ t246 1 0 t250 t251 t254 _ ?side1 A3.out).mono ?_); (case side1 => exact HO248.out); rintro e w19 ⟨v252, rfl, ho0, hb⟩; refine ⟨_, rfl, ?_⟩; have n3_ := Aside0.mk (Kd.V_lower (Kd.V_mono (ok' := fun k_ => some k_ ≠ (.slice Ao14 y239.length co14 : Value).ownBlock) ho0 (fun k_ hk_ => Or.elim hk_ (fun hs_ => hs_) (fun hn_ => (Kd.fresh' (Kd.R_lt HO241.out) k_ hn_)))) (below_size HB.out)); have HO253 := n3_; clear n3_; replace HO241 := rb_ HO241 hb; replace HO245 := sb_ HO245 hb; replace HO248 := vb_ HO248 hb; replace HB := hb_ HB hb; (try clear hb); (try clear hb2); (try clear hk); (try clear hi); (try clear ho0)) | ((with_reducible refine gate_callee (f := 30) rfl ?_); refine goesL_ (some 29) rfl rfl Try.func30 (by kernel_rfl) rfl #[.slice Ao18 t246.length co18] rfl (by (try simp only [List.map_toArray, List.map_cons, List.map_nil]); rfl) ?_; (with_reducible refine (port_Deliver.calls k (fun k_ => some k_ ≠ (.slice Ao14 y239.length co14 : Value).ownBlock) _ _ t246 t255 _ ?side1 A4.out).mono ?_); (case side1 => exact HO248.out); rintro e w20 ⟨v256, rfl, ho0, hb⟩; refine ⟨_, rfl, ?_⟩; have n4_ := Aside0.mk (Kd.V_lower (Kd.V_mono (ok' := fun k_ => some k_ ≠ (.slice Ao14 y239.length co14 : Value).ownBlock) ho0 (fun k_ hk_ => Or.elim hk_ (fun hs_ => hs_) (fun hn_ => (Kd.fresh' (Kd.R_lt HO241.out) k_ hn_)))) (below_size HB.out)); have HO257 := n4_; clear n4_; replace HO241 := rb_ HO241 hb; replace HO245 := sb_ HO245 hb; replace HO248 := vb_ HO248 hb; replace HO253 := vb_ HO253 hb; replace HB := hb_ HB hb; (try clear hb); (try clear hb2); (try clear hk); (try clear hi); (try clear ho0); obtain ⟨Ao21, co21, eo21⟩ := Kd.V_slice HO257.out; subst eo21) | ((with_reducible refine gate_callee (f := 29) rfl ?_); refine goesL_ (some 30) rfl rfl Try.func29 (by kernel_rfl) rfl #[.slice Ao21 t255.length co21, .int .i64 1, .int .i64 0] rfl (by (try simp only [List.map_toArray, List.map_cons, List.map_nil]); rfl) ?_; (with_reducible refine (port_Read.calls k (fun k_ => some k_ ≠ (.slice Ao14 y239.length co14 : Value).ownBlock) _ _ t255 1 0 t258 t259 t262 _ ?side1 A5.out).mono ?_); (case side1 => exact HO257.out); rintro e w22 ⟨v260, rfl, ho0, hb⟩; refine ⟨_, rfl, ?_⟩; have n5_ := Aside0.mk (Kd.V_lower (Kd.V_mono (ok' := fun k_ => some k_ ≠ (.slice Ao14 y239.length co14 : Value).ownBlock) ho0 (fun k_ hk_ => Or.elim hk_ (fun hs_ => hs_) (fun hn_ => (Kd.fresh' (Kd.R_lt HO241.out) k_ hn_)))) (below_size HB.out)); have HO261 := n5_; clear n5_; replace HO241 := rb_ HO241 hb; replace HO245 := sb_ HO245 hb; replace HO248 := vb_ HO248 hb; replace HO253 := vb_ HO253 hb; replace HO257 := vb_ HO257 hb; replace HB := hb_ HB hb; (try clear hb); (try clear hb2); (try clear hk); (try clear hi); (try clear ho0)) | (go_at_call 31; (with_reducible refine (port_Right.calls k _ _ t246 t263 _ ?side1 ?side2 A11.out).mono ?_); (case side1 => repeat ((exact (Kd.V_reads' HO248.out).2.2))); (case side2 => exact (Kd.V_reads' HO248.out).2.1); rintro e w23 ⟨rfl, hb⟩; replace HO241 := rb_ HO241 hb; replace HO245 := sb_ HO245 hb; replace HO248 := vb_ HO248 hb; replace HO253 := vb_ HO253 hb; replace HO257 := vb_ HO257 hb; replace HO261 := vb_ HO261 hb; replace HB := hb_ HB hb; (try clear hb); (try clear hb2); (try clear hk); (try clear hi)))
            go_ret
            exact ⟨by rfl, by repeat ((with_reducible (exact HB.out)))⟩
          · rw [if_neg c10] at H
            have c10b0 : (t262 == 0) = false := beq_eq_false_iff_ne.mpr c10
            have c10b1 : (t262 != 0) = true := bne_iff_ne.mpr c10
            obtain rfl := Option.some.inj H
            go_enter Try.func27, Try.ntmps27
            go_wp2_with (first | ((with_reducible refine gate_dst (N := 12) rfl ?_); refine Kd.R_lit k51 _ 51 ?hg (N := 12) ?hd (xs := ([(⟨0, 1, 2⟩ : S51)] : List (S51))) (inner := [.int .i64 0, .int .i64 1, .int .i64 2]) (ok := fun _ => True) (okp := fun _ => True) ?hr ?hp (fun _ hk => hk) trivial (Below.refl _ _) (Nat.le_refl _) (by simp) ?_; (case hd => rfl); (case hg => rfl); (case hr => (go_simp; done)); (case hp => exact (Reps.c3 (show Kd.M k51 _ _ _ (⟨0, 1, 2⟩ : S51) [.int .i64 0, .int .i64 1, .int .i64 2] from (k51_mkM _ _ _ (⟨0, 1, 2⟩ : S51) )) (Reps.none _ _))); intro v240 w24 ho25 hb hg_ hnew_; clear hg_ hnew_; ((rw [← Ny239.out] at ho25)); have n0_ := Aside0.mk (Kd.R_lower ho25 (below_size HB.out)); have HO241 := n0_; clear n0_; replace HB := hb_ HB hb; clear hb ho25; obtain ⟨Ao26, co26, eo26⟩ := Kd.R_slice HO241.out; subst eo26) | ((with_reducible refine gate_callee (f := 26) rfl ?_); refine goesL_ (some 13) rfl rfl Try.func26 (by kernel_rfl) rfl #[.slice Ao26 y239.length co26] rfl (by (try simp only [List.map_toArray, List.map_cons, List.map_nil]); rfl) ?_; (with_reducible refine (port_Open.calls k _ _ y239 t242 t243 _ ?side1 ?side2 A1.out).mono ?_); (case side1 => repeat ((exact (Kd.R_reads' HO241.out).2.2))); (case side2 => exact (Kd.R_reads' HO241.out).2.1); rintro e w27 ⟨v244, rfl, ho0, hb⟩; refine ⟨_, rfl, ?_⟩; have n1_ := Aside0.mk (Kd.S_lower ho0 (below_size HB.out)); have HO245 := n1_; clear n1_; replace HO241 := rb_ HO241 hb; replace HB := hb_ HB hb; (try clear hb); (try clear hb2); (try clear hk); (try clear hi); (try clear ho0); obtain ⟨Ao28, co28, eo28⟩ := Kd.S_slice HO245.out; subst eo28) | ((with_reducible refine gate_callee (f := 28) rfl ?_); refine goesL_ (some 18) rfl rfl Try.func28 (by kernel_rfl) rfl #[.slice Ao28 t242.length co28, .int .i64 0, .int .i64 0, .int .i64 7] rfl (by (try simp only [List.map_toArray, List.map_cons, List.map_nil]); rfl) ?_; (with_reducible refine (port_Send.calls k (fun k_ => (True ∧ some k_ ≠ (.slice Ao26 y239.length co26 : Value).ownBlock)) _ _ t242 0 0 7 t246 t249 _ ?side1 A2.out).mono ?_); (case side1 => exact Kd.S_V (Kd.S_apart' (HO245.out) (Kd.R_typed HO241.out) (by decide))); rintro e w29 ⟨v247, rfl, ho0, hb⟩; refine ⟨_, rfl, ?_⟩; have n2_ := Aside0.mk (Kd.V_lower (Kd.V_mono (ok' := fun k_ => some k_ ≠ (.slice Ao26 y239.length co26 : Value).ownBlock) ho0 (fun k_ hk_ => Or.elim hk_ (fun hs_ => hs_.2) (fun hn_ => (Kd.fresh' (Kd.R_lt HO241.out) k_ hn_)))) (below_size HB.out)); have HO248 := n2_; clear n2_; replace HO241 := rb_ HO241 hb; replace HO245 := sb_ HO245 hb; replace HB := hb_ HB hb; (try clear hb); (try clear hb2); (try clear hk); (try clear hi); (try clear ho0); obtain ⟨Ao30, co30, eo30⟩ := Kd.V_slice HO248.out; subst eo30) | ((with_reducible refine gate_callee (f := 29) rfl ?_); refine goesL_ (some 23) rfl rfl Try.func29 (by kernel_rfl) rfl #[.slice Ao30 t246.length co30, .int .i64 1, .int .i64 0] rfl (by (try simp only [List.map_toArray, List.map_cons, List.map_nil]); rfl) ?_; (with_reducible refine (port_Read.calls k (fun k_ => some k_ ≠ (.slice Ao26 y239.length co26 : Value).ownBlock) _ _ t246 1 0 t250 t251 t254 _ ?side1 A3.out).mono ?_); (case side1 => exact HO248.out); rintro e w31 ⟨v252, rfl, ho0, hb⟩; refine ⟨_, rfl, ?_⟩; have n3_ := Aside0.mk (Kd.V_lower (Kd.V_mono (ok' := fun k_ => some k_ ≠ (.slice Ao26 y239.length co26 : Value).ownBlock) ho0 (fun k_ hk_ => Or.elim hk_ (fun hs_ => hs_) (fun hn_ => (Kd.fresh' (Kd.R_lt HO241.out) k_ hn_)))) (below_size HB.out)); have HO253 := n3_; clear n3_; replace HO241 := rb_ HO241 hb; replace HO245 := sb_ HO245 hb; replace HO248 := vb_ HO248 hb; replace HB := hb_ HB hb; (try clear hb); (try clear hb2); (try clear hk); (try clear hi); (try clear ho0)) | ((with_reducible refine gate_callee (f := 30) rfl ?_); refine goesL_ (some 29) rfl rfl Try.func30 (by kernel_rfl) rfl #[.slice Ao30 t246.length co30] rfl (by (try simp only [List.map_toArray, List.map_cons, List.map_nil]); rfl) ?_; (with_reducible refine (port_Deliver.calls k (fun k_ => some k_ ≠ (.slice Ao26 y239.length co26 : Value).ownBlock) _ _ t246 t255 _ ?side1 A4.out).mono ?_); (case side1 => exact HO248.out); rintro e w32 ⟨v256, rfl, ho0, hb⟩; refine ⟨_, rfl, ?_⟩; have n4_ := Aside0.mk (Kd.V_lower (Kd.V_mono (ok' := fun k_ => some k_ ≠ (.slice Ao26 y239.length co26 : Value).ownBlock) ho0 (fun k_ hk_ => Or.elim hk_ (fun hs_ => hs_) (fun hn_ => (Kd.fresh' (Kd.R_lt HO241.out) k_ hn_)))) (below_size HB.out)); have HO257 := n4_; clear n4_; replace HO241 := rb_ HO241 hb; replace HO245 := sb_ HO245 hb; replace HO248 := vb_ HO248 hb; replace HO253 := vb_ HO253 hb; replace HB := hb_ HB hb; (try clear hb); (try clear hb2); (try clear hk); (try clear hi); (try clear ho0); obtain ⟨Ao33, co33, eo33⟩ := Kd.V_slice HO257.out; subst eo33) | ((with_reducible refine gate_callee (f := 29) rfl ?_); refine goesL_ (some 30) rfl rfl Try.func29 (by kernel_rfl) rfl #[.slice Ao33 t255.length co33, .int .i64 1, .int .i64 0] rfl (by (try simp only [List.map_toArray, List.map_cons, List.map_nil]); rfl) ?_; (with_reducible refine (port_Read.calls k (fun k_ => some k_ ≠ (.slice Ao26 y239.length co26 : Value).ownBlock) _ _ t255 1 0 t258 t259 t262 _ ?side1 A5.out).mono ?_); (case side1 => exact HO257.out); rintro e w34 ⟨v260, rfl, ho0, hb⟩; refine ⟨_, rfl, ?_⟩; have n5_ := Aside0.mk (Kd.V_lower (Kd.V_mono (ok' := fun k_ => some k_ ≠ (.slice Ao26 y239.length co26 : Value).ownBlock) ho0 (fun k_ hk_ => Or.elim hk_ (fun hs_ => hs_) (fun hn_ => (Kd.fresh' (Kd.R_lt HO241.out) k_ hn_)))) (below_size HB.out)); have HO261 := n5_; clear n5_; replace HO241 := rb_ HO241 hb; replace HO245 := sb_ HO245 hb; replace HO248 := vb_ HO248 hb; replace HO253 := vb_ HO253 hb; replace HO257 := vb_ HO257 hb; replace HB := hb_ HB hb; (try clear hb); (try clear hb2); (try clear hk); (try clear hi); (try clear ho0)))
            go_ret
            exact ⟨by rfl, by repeat ((with_reducible (exact HB.out)))⟩
        · rw [if_neg c9] at H
          have c9b0 : (t258 == 7) = false := beq_eq_false_iff_ne.mpr c9
          have c9b1 : (t258 != 7) = true := bne_iff_ne.mpr c9
          obtain rfl := Option.some.inj H
          go_enter Try.func27, Try.ntmps27
          go_wp2_with (first | ((with_reducible refine gate_dst (N := 12) rfl ?_); refine Kd.R_lit k51 _ 51 ?hg (N := 12) ?hd (xs := ([(⟨0, 1, 2⟩ : S51)] : List (S51))) (inner := [.int .i64 0, .int .i64 1, .int .i64 2]) (ok := fun _ => True) (okp := fun _ => True) ?hr ?hp (fun _ hk => hk) trivial (Below.refl _ _) (Nat.le_refl _) (by simp) ?_; (case hd => rfl); (case hg => rfl); (case hr => (go_simp; done)); (case hp => exact (Reps.c3 (show Kd.M k51 _ _ _ (⟨0, 1, 2⟩ : S51) [.int .i64 0, .int .i64 1, .int .i64 2] from (k51_mkM _ _ _ (⟨0, 1, 2⟩ : S51) )) (Reps.none _ _))); intro v240 w35 ho36 hb hg_ hnew_; clear hg_ hnew_; ((rw [← Ny239.out] at ho36)); have n0_ := Aside0.mk (Kd.R_lower ho36 (below_size HB.out)); have HO241 := n0_; clear n0_; replace HB := hb_ HB hb; clear hb ho36; obtain ⟨Ao37, co37, eo37⟩ := Kd.R_slice HO241.out; subst eo37) | ((with_reducible refine gate_callee (f := 26) rfl ?_); refine goesL_ (some 13) rfl rfl Try.func26 (by kernel_rfl) rfl #[.slice Ao37 y239.length co37] rfl (by (try simp only [List.map_toArray, List.map_cons, List.map_nil]); rfl) ?_; (with_reducible refine (port_Open.calls k _ _ y239 t242 t243 _ ?side1 ?side2 A1.out).mono ?_); (case side1 => repeat ((exact (Kd.R_reads' HO241.out).2.2))); (case side2 => exact (Kd.R_reads' HO241.out).2.1); rintro e w38 ⟨v244, rfl, ho0, hb⟩; refine ⟨_, rfl, ?_⟩; have n1_ := Aside0.mk (Kd.S_lower ho0 (below_size HB.out)); have HO245 := n1_; clear n1_; replace HO241 := rb_ HO241 hb; replace HB := hb_ HB hb; (try clear hb); (try clear hb2); (try clear hk); (try clear hi); (try clear ho0); obtain ⟨Ao39, co39, eo39⟩ := Kd.S_slice HO245.out; subst eo39) | ((with_reducible refine gate_callee (f := 28) rfl ?_); refine goesL_ (some 18) rfl rfl Try.func28 (by kernel_rfl) rfl #[.slice Ao39 t242.length co39, .int .i64 0, .int .i64 0, .int .i64 7] rfl (by (try simp only [List.map_toArray, List.map_cons, List.map_nil]); rfl) ?_; (with_reducible refine (port_Send.calls k (fun k_ => (True ∧ some k_ ≠ (.slice Ao37 y239.length co37 : Value).ownBlock)) _ _ t242 0 0 7 t246 t249 _ ?side1 A2.out).mono ?_); (case side1 => exact Kd.S_V (Kd.S_apart' (HO245.out) (Kd.R_typed HO241.out) (by decide))); rintro e w40 ⟨v247, rfl, ho0, hb⟩; refine ⟨_, rfl, ?_⟩; have n2_ := Aside0.mk (Kd.V_lower (Kd.V_mono (ok' := fun k_ => some k_ ≠ (.slice Ao37 y239.length co37 : Value).ownBlock) ho0 (fun k_ hk_ => Or.elim hk_ (fun hs_ => hs_.2) (fun hn_ => (Kd.fresh' (Kd.R_lt HO241.out) k_ hn_)))) (below_size HB.out)); have HO248 := n2_; clear n2_; replace HO241 := rb_ HO241 hb; replace HO245 := sb_ HO245 hb; replace HB := hb_ HB hb; (try clear hb); (try clear hb2); (try clear hk); (try clear hi); (try clear ho0); obtain ⟨Ao41, co41, eo41⟩ := Kd.V_slice HO248.out; subst eo41) | ((with_reducible refine gate_callee (f := 29) rfl ?_); refine goesL_ (some 23) rfl rfl Try.func29 (by kernel_rfl) rfl #[.slice Ao41 t246.length co41, .int .i64 1, .int .i64 0] rfl (by (try simp only [List.map_toArray, List.map_cons, List.map_nil]); rfl) ?_; (with_reducible refine (port_Read.calls k (fun k_ => some k_ ≠ (.slice Ao37 y239.length co37 : Value).ownBlock) _ _ t246 1 0 t250 t251 t254 _ ?side1 A3.out).mono ?_); (case side1 => exact HO248.out); rintro e w42 ⟨v252, rfl, ho0, hb⟩; refine ⟨_, rfl, ?_⟩; have n3_ := Aside0.mk (Kd.V_lower (Kd.V_mono (ok' := fun k_ => some k_ ≠ (.slice Ao37 y239.length co37 : Value).ownBlock) ho0 (fun k_ hk_ => Or.elim hk_ (fun hs_ => hs_) (fun hn_ => (Kd.fresh' (Kd.R_lt HO241.out) k_ hn_)))) (below_size HB.out)); have HO253 := n3_; clear n3_; replace HO241 := rb_ HO241 hb; replace HO245 := sb_ HO245 hb; replace HO248 := vb_ HO248 hb; replace HB := hb_ HB hb; (try clear hb); (try clear hb2); (try clear hk); (try clear hi); (try clear ho0)) | ((with_reducible refine gate_callee (f := 30) rfl ?_); refine goesL_ (some 29) rfl rfl Try.func30 (by kernel_rfl) rfl #[.slice Ao41 t246.length co41] rfl (by (try simp only [List.map_toArray, List.map_cons, List.map_nil]); rfl) ?_; (with_reducible refine (port_Deliver.calls k (fun k_ => some k_ ≠ (.slice Ao37 y239.length co37 : Value).ownBlock) _ _ t246 t255 _ ?side1 A4.out).mono ?_); (case side1 => exact HO248.out); rintro e w43 ⟨v256, rfl, ho0, hb⟩; refine ⟨_, rfl, ?_⟩; have n4_ := Aside0.mk (Kd.V_lower (Kd.V_mono (ok' := fun k_ => some k_ ≠ (.slice Ao37 y239.length co37 : Value).ownBlock) ho0 (fun k_ hk_ => Or.elim hk_ (fun hs_ => hs_) (fun hn_ => (Kd.fresh' (Kd.R_lt HO241.out) k_ hn_)))) (below_size HB.out)); have HO257 := n4_; clear n4_; replace HO241 := rb_ HO241 hb; replace HO245 := sb_ HO245 hb; replace HO248 := vb_ HO248 hb; replace HO253 := vb_ HO253 hb; replace HB := hb_ HB hb; (try clear hb); (try clear hb2); (try clear hk); (try clear hi); (try clear ho0); obtain ⟨Ao44, co44, eo44⟩ := Kd.V_slice HO257.out; subst eo44) | ((with_reducible refine gate_callee (f := 29) rfl ?_); refine goesL_ (some 30) rfl rfl Try.func29 (by kernel_rfl) rfl #[.slice Ao44 t255.length co44, .int .i64 1, .int .i64 0] rfl (by (try simp only [List.map_toArray, List.map_cons, List.map_nil]); rfl) ?_; (with_reducible refine (port_Read.calls k (fun k_ => some k_ ≠ (.slice Ao37 y239.length co37 : Value).ownBlock) _ _ t255 1 0 t258 t259 t262 _ ?side1 A5.out).mono ?_); (case side1 => exact HO257.out); rintro e w45 ⟨v260, rfl, ho0, hb⟩; refine ⟨_, rfl, ?_⟩; have n5_ := Aside0.mk (Kd.V_lower (Kd.V_mono (ok' := fun k_ => some k_ ≠ (.slice Ao37 y239.length co37 : Value).ownBlock) ho0 (fun k_ hk_ => Or.elim hk_ (fun hs_ => hs_) (fun hn_ => (Kd.fresh' (Kd.R_lt HO241.out) k_ hn_)))) (below_size HB.out)); have HO261 := n5_; clear n5_; replace HO241 := rb_ HO241 hb; replace HO245 := sb_ HO245 hb; replace HO248 := vb_ HO248 hb; replace HO253 := vb_ HO253 hb; replace HO257 := vb_ HO257 hb; replace HB := hb_ HB hb; (try clear hb); (try clear hb2); (try clear hk); (try clear hi); (try clear ho0)))
          go_ret
          exact ⟨by rfl, by repeat ((with_reducible (exact HB.out)))⟩
      · rw [if_neg c8] at H
        have c8b0 : (t254 == 4) = false := beq_eq_false_iff_ne.mpr c8
        have c8b1 : (t254 != 4) = true := bne_iff_ne.mpr c8
        obtain rfl := Option.some.inj H
        go_enter Try.func27, Try.ntmps27
        go_wp2_with (first | ((with_reducible refine gate_dst (N := 12) rfl ?_); refine Kd.R_lit k51 _ 51 ?hg (N := 12) ?hd (xs := ([(⟨0, 1, 2⟩ : S51)] : List (S51))) (inner := [.int .i64 0, .int .i64 1, .int .i64 2]) (ok := fun _ => True) (okp := fun _ => True) ?hr ?hp (fun _ hk => hk) trivial (Below.refl _ _) (Nat.le_refl _) (by simp) ?_; (case hd => rfl); (case hg => rfl); (case hr => (go_simp; done)); (case hp => exact (Reps.c3 (show Kd.M k51 _ _ _ (⟨0, 1, 2⟩ : S51) [.int .i64 0, .int .i64 1, .int .i64 2] from (k51_mkM _ _ _ (⟨0, 1, 2⟩ : S51) )) (Reps.none _ _))); intro v240 w46 ho47 hb hg_ hnew_; clear hg_ hnew_; ((rw [← Ny239.out] at ho47)); have n0_ := Aside0.mk (Kd.R_lower ho47 (below_size HB.out)); have HO241 := n0_; clear n0_; replace HB := hb_ HB hb; clear hb ho47; obtain ⟨Ao48, co48, eo48⟩ := Kd.R_slice HO241.out; subst eo48) | ((with_reducible refine gate_callee (f := 26) rfl ?_); refine goesL_ (some 13) rfl rfl Try.func26 (by kernel_rfl) rfl #[.slice Ao48 y239.length co48] rfl (by (try simp only [List.map_toArray, List.map_cons, List.map_nil]); rfl) ?_; (with_reducible refine (port_Open.calls k _ _ y239 t242 t243 _ ?side1 ?side2 A1.out).mono ?_); (case side1 => repeat ((exact (Kd.R_reads' HO241.out).2.2))); (case side2 => exact (Kd.R_reads' HO241.out).2.1); rintro e w49 ⟨v244, rfl, ho0, hb⟩; refine ⟨_, rfl, ?_⟩; have n1_ := Aside0.mk (Kd.S_lower ho0 (below_size HB.out)); have HO245 := n1_; clear n1_; replace HO241 := rb_ HO241 hb; replace HB := hb_ HB hb; (try clear hb); (try clear hb2); (try clear hk); (try clear hi); (try clear ho0); obtain ⟨Ao50, co50, eo50⟩ := Kd.S_slice HO245.out; subst eo50) | ((with_reducible refine gate_callee (f := 28) rfl ?_); refine goesL_ (some 18) rfl rfl Try.func28 (by kernel_rfl) rfl #[.slice Ao50 t242.length co50, .int .i64 0, .int .i64 0, .int .i64 7] rfl (by (try simp only [List.map_toArray, List.map_cons, List.map_nil]); rfl) ?_; (with_reducible refine (port_Send.calls k (fun k_ => (True ∧ some k_ ≠ (.slice Ao48 y239.length co48 : Value).ownBlock)) _ _ t242 0 0 7 t246 t249 _ ?side1 A2.out).mono ?_); (case side1 => exact Kd.S_V (Kd.S_apart' (HO245.out) (Kd.R_typed HO241.out) (by decide))); rintro e w51 ⟨v247, rfl, ho0, hb⟩; refine ⟨_, rfl, ?_⟩; have n2_ := Aside0.mk (Kd.V_lower (Kd.V_mono (ok' := fun k_ => some k_ ≠ (.slice Ao48 y239.length co48 : Value).ownBlock) ho0 (fun k_ hk_ => Or.elim hk_ (fun hs_ => hs_.2) (fun hn_ => (Kd.fresh' (Kd.R_lt HO241.out) k_ hn_)))) (below_size HB.out)); have HO248 := n2_; clear n2_; replace HO241 := rb_ HO241 hb; replace HO245 := sb_ HO245 hb; replace HB := hb_ HB hb; (try clear hb); (try clear hb2); (try clear hk); (try clear hi); (try clear ho0); obtain ⟨Ao52, co52, eo52⟩ := Kd.V_slice HO248.out; subst eo52) | ((with_reducible refine gate_callee (f := 29) rfl ?_); refine goesL_ (some 23) rfl rfl Try.func29 (by kernel_rfl) rfl #[.slice Ao52 t246.length co52, .int .i64 1, .int .i64 0] rfl (by (try simp only [List.map_toArray, List.map_cons, List.map_nil]); rfl) ?_; (with_reducible refine (port_Read.calls k (fun k_ => some k_ ≠ (.slice Ao48 y239.length co48 : Value).ownBlock) _ _ t246 1 0 t250 t251 t254 _ ?side1 A3.out).mono ?_); (case side1 => exact HO248.out); rintro e w53 ⟨v252, rfl, ho0, hb⟩; refine ⟨_, rfl, ?_⟩; have n3_ := Aside0.mk (Kd.V_lower (Kd.V_mono (ok' := fun k_ => some k_ ≠ (.slice Ao48 y239.length co48 : Value).ownBlock) ho0 (fun k_ hk_ => Or.elim hk_ (fun hs_ => hs_) (fun hn_ => (Kd.fresh' (Kd.R_lt HO241.out) k_ hn_)))) (below_size HB.out)); have HO253 := n3_; clear n3_; replace HO241 := rb_ HO241 hb; replace HO245 := sb_ HO245 hb; replace HO248 := vb_ HO248 hb; replace HB := hb_ HB hb; (try clear hb); (try clear hb2); (try clear hk); (try clear hi); (try clear ho0)) | ((with_reducible refine gate_callee (f := 30) rfl ?_); refine goesL_ (some 29) rfl rfl Try.func30 (by kernel_rfl) rfl #[.slice Ao52 t246.length co52] rfl (by (try simp only [List.map_toArray, List.map_cons, List.map_nil]); rfl) ?_; (with_reducible refine (port_Deliver.calls k (fun k_ => some k_ ≠ (.slice Ao48 y239.length co48 : Value).ownBlock) _ _ t246 t255 _ ?side1 A4.out).mono ?_); (case side1 => exact HO248.out); rintro e w54 ⟨v256, rfl, ho0, hb⟩; refine ⟨_, rfl, ?_⟩; have n4_ := Aside0.mk (Kd.V_lower (Kd.V_mono (ok' := fun k_ => some k_ ≠ (.slice Ao48 y239.length co48 : Value).ownBlock) ho0 (fun k_ hk_ => Or.elim hk_ (fun hs_ => hs_) (fun hn_ => (Kd.fresh' (Kd.R_lt HO241.out) k_ hn_)))) (below_size HB.out)); have HO257 := n4_; clear n4_; replace HO241 := rb_ HO241 hb; replace HO245 := sb_ HO245 hb; replace HO248 := vb_ HO248 hb; replace HO253 := vb_ HO253 hb; replace HB := hb_ HB hb; (try clear hb); (try clear hb2); (try clear hk); (try clear hi); (try clear ho0); obtain ⟨Ao55, co55, eo55⟩ := Kd.V_slice HO257.out; subst eo55) | ((with_reducible refine gate_callee (f := 29) rfl ?_); refine goesL_ (some 30) rfl rfl Try.func29 (by kernel_rfl) rfl #[.slice Ao55 t255.length co55, .int .i64 1, .int .i64 0] rfl (by (try simp only [List.map_toArray, List.map_cons, List.map_nil]); rfl) ?_; (with_reducible refine (port_Read.calls k (fun k_ => some k_ ≠ (.slice Ao48 y239.length co48 : Value).ownBlock) _ _ t255 1 0 t258 t259 t262 _ ?side1 A5.out).mono ?_); (case side1 => exact HO257.out); rintro e w56 ⟨v260, rfl, ho0, hb⟩; refine ⟨_, rfl, ?_⟩; have n5_ := Aside0.mk (Kd.V_lower (Kd.V_mono (ok' := fun k_ => some k_ ≠ (.slice Ao48 y239.length co48 : Value).ownBlock) ho0 (fun k_ hk_ => Or.elim hk_ (fun hs_ => hs_) (fun hn_ => (Kd.fresh' (Kd.R_lt HO241.out) k_ hn_)))) (below_size HB.out)); have HO261 := n5_; clear n5_; replace HO241 := rb_ HO241 hb; replace HO245 := sb_ HO245 hb; replace HO248 := vb_ HO248 hb; replace HO253 := vb_ HO253 hb; replace HO257 := vb_ HO257 hb; replace HB := hb_ HB hb; (try clear hb); (try clear hb2); (try clear hk); (try clear hi); (try clear ho0)))
        go_ret
        exact ⟨by rfl, by repeat ((with_reducible (exact HB.out)))⟩
    · rw [if_neg c7] at H
      have c7b0 : (t249 == 0) = false := beq_eq_false_iff_ne.mpr c7
      have c7b1 : (t249 != 0) = true := bne_iff_ne.mpr c7
      obtain rfl := Option.some.inj H
      go_enter Try.func27, Try.ntmps27
      go_wp2_with (first | ((with_reducible refine gate_dst (N := 12) rfl ?_); refine Kd.R_lit k51 _ 51 ?hg (N := 12) ?hd (xs := ([(⟨0, 1, 2⟩ : S51)] : List (S51))) (inner := [.int .i64 0, .int .i64 1, .int .i64 2]) (ok := fun _ => True) (okp := fun _ => True) ?hr ?hp (fun _ hk => hk) trivial (Below.refl _ _) (Nat.le_refl _) (by simp) ?_; (case hd => rfl); (case hg => rfl); (case hr => (go_simp; done)); (case hp => exact (Reps.c3 (show Kd.M k51 _ _ _ (⟨0, 1, 2⟩ : S51) [.int .i64 0, .int .i64 1, .int .i64 2] from (k51_mkM _ _ _ (⟨0, 1, 2⟩ : S51) )) (Reps.none _ _))); intro v240 w57 ho58 hb hg_ hnew_; clear hg_ hnew_; ((rw [← Ny239.out] at ho58)); have n0_ := Aside0.mk (Kd.R_lower ho58 (below_size HB.out)); have HO241 := n0_; clear n0_; replace HB := hb_ HB hb; clear hb ho58; obtain ⟨Ao59, co59, eo59⟩ := Kd.R_slice HO241.out; subst eo59) | ((with_reducible refine gate_callee (f := 26) rfl ?_); refine goesL_ (some 13) rfl rfl Try.func26 (by kernel_rfl) rfl #[.slice Ao59 y239.length co59] rfl (by (try simp only [List.map_toArray, List.map_cons, List.map_nil]); rfl) ?_; (with_reducible refine (port_Open.calls k _ _ y239 t242 t243 _ ?side1 ?side2 A1.out).mono ?_); (case side1 => repeat ((exact (Kd.R_reads' HO241.out).2.2))); (case side2 => exact (Kd.R_reads' HO241.out).2.1); rintro e w60 ⟨v244, rfl, ho0, hb⟩; refine ⟨_, rfl, ?_⟩; have n1_ := Aside0.mk (Kd.S_lower ho0 (below_size HB.out)); have HO245 := n1_; clear n1_; replace HO241 := rb_ HO241 hb; replace HB := hb_ HB hb; (try clear hb); (try clear hb2); (try clear hk); (try clear hi); (try clear ho0); obtain ⟨Ao61, co61, eo61⟩ := Kd.S_slice HO245.out; subst eo61) | ((with_reducible refine gate_callee (f := 28) rfl ?_); refine goesL_ (some 18) rfl rfl Try.func28 (by kernel_rfl) rfl #[.slice Ao61 t242.length co61, .int .i64 0, .int .i64 0, .int .i64 7] rfl (by (try simp only [List.map_toArray, List.map_cons, List.map_nil]); rfl) ?_; (with_reducible refine (port_Send.calls k (fun k_ => (True ∧ some k_ ≠ (.slice Ao59 y239.length co59 : Value).ownBlock)) _ _ t242 0 0 7 t246 t249 _ ?side1 A2.out).mono ?_); (case side1 => exact Kd.S_V (Kd.S_apart' (HO245.out) (Kd.R_typed HO241.out) (by decide))); rintro e w62 ⟨v247, rfl, ho0, hb⟩; refine ⟨_, rfl, ?_⟩; have n2_ := Aside0.mk (Kd.V_lower (Kd.V_mono (ok' := fun k_ => some k_ ≠ (.slice Ao59 y239.length co59 : Value).ownBlock) ho0 (fun k_ hk_ => Or.elim hk_ (fun hs_ => hs_.2) (fun hn_ => (Kd.fresh' (Kd.R_lt HO241.out) k_ hn_)))) (below_size HB.out)); have HO248 := n2_; clear n2_; replace HO241 := rb_ HO241 hb; replace HO245 := sb_ HO245 hb; replace HB := hb_ HB hb; (try clear hb); (try clear hb2); (try clear hk); (try clear hi); (try clear ho0); obtain ⟨Ao63, co63, eo63⟩ := Kd.V_slice HO248.out; subst eo63) | ((with_reducible refine gate_callee (f := 29) rfl ?_); refine goesL_ (some 23) rfl rfl Try.func29 (by kernel_rfl) rfl #[.slice Ao63 t246.length co63, .int .i64 1, .int .i64 0] rfl (by (try simp only [List.map_toArray, List.map_cons, List.map_nil]); rfl) ?_; (with_reducible refine (port_Read.calls k (fun k_ => some k_ ≠ (.slice Ao59 y239.length co59 : Value).ownBlock) _ _ t246 1 0 t250 t251 t254 _ ?side1 A3.out).mono ?_); (case side1 => exact HO248.out); rintro e w64 ⟨v252, rfl, ho0, hb⟩; refine ⟨_, rfl, ?_⟩; have n3_ := Aside0.mk (Kd.V_lower (Kd.V_mono (ok' := fun k_ => some k_ ≠ (.slice Ao59 y239.length co59 : Value).ownBlock) ho0 (fun k_ hk_ => Or.elim hk_ (fun hs_ => hs_) (fun hn_ => (Kd.fresh' (Kd.R_lt HO241.out) k_ hn_)))) (below_size HB.out)); have HO253 := n3_; clear n3_; replace HO241 := rb_ HO241 hb; replace HO245 := sb_ HO245 hb; replace HO248 := vb_ HO248 hb; replace HB := hb_ HB hb; (try clear hb); (try clear hb2); (try clear hk); (try clear hi); (try clear ho0)) | ((with_reducible refine gate_callee (f := 30) rfl ?_); refine goesL_ (some 29) rfl rfl Try.func30 (by kernel_rfl) rfl #[.slice Ao63 t246.length co63] rfl (by (try simp only [List.map_toArray, List.map_cons, List.map_nil]); rfl) ?_; (with_reducible refine (port_Deliver.calls k (fun k_ => some k_ ≠ (.slice Ao59 y239.length co59 : Value).ownBlock) _ _ t246 t255 _ ?side1 A4.out).mono ?_); (case side1 => exact HO248.out); rintro e w65 ⟨v256, rfl, ho0, hb⟩; refine ⟨_, rfl, ?_⟩; have n4_ := Aside0.mk (Kd.V_lower (Kd.V_mono (ok' := fun k_ => some k_ ≠ (.slice Ao59 y239.length co59 : Value).ownBlock) ho0 (fun k_ hk_ => Or.elim hk_ (fun hs_ => hs_) (fun hn_ => (Kd.fresh' (Kd.R_lt HO241.out) k_ hn_)))) (below_size HB.out)); have HO257 := n4_; clear n4_; replace HO241 := rb_ HO241 hb; replace HO245 := sb_ HO245 hb; replace HO248 := vb_ HO248 hb; replace HO253 := vb_ HO253 hb; replace HB := hb_ HB hb; (try clear hb); (try clear hb2); (try clear hk); (try clear hi); (try clear ho0); obtain ⟨Ao66, co66, eo66⟩ := Kd.V_slice HO257.out; subst eo66) | ((with_reducible refine gate_callee (f := 29) rfl ?_); refine goesL_ (some 30) rfl rfl Try.func29 (by kernel_rfl) rfl #[.slice Ao66 t255.length co66, .int .i64 1, .int .i64 0] rfl (by (try simp only [List.map_toArray, List.map_cons, List.map_nil]); rfl) ?_; (with_reducible refine (port_Read.calls k (fun k_ => some k_ ≠ (.slice Ao59 y239.length co59 : Value).ownBlock) _ _ t255 1 0 t258 t259 t262 _ ?side1 A5.out).mono ?_); (case side1 => exact HO257.out); rintro e w67 ⟨v260, rfl, ho0, hb⟩; refine ⟨_, rfl, ?_⟩; have n5_ := Aside0.mk (Kd.V_lower (Kd.V_mono (ok' := fun k_ => some k_ ≠ (.slice Ao59 y239.length co59 : Value).ownBlock) ho0 (fun k_ hk_ => Or.elim hk_ (fun hs_ => hs_) (fun hn_ => (Kd.fresh' (Kd.R_lt HO241.out) k_ hn_)))) (below_size HB.out)); have HO261 := n5_; clear n5_; replace HO241 := rb_ HO241 hb; replace HO245 := sb_ HO245 hb; replace HO248 := vb_ HO248 hb; replace HO253 := vb_ HO253 hb; replace HO257 := vb_ HO257 hb; replace HB := hb_ HB hb; (try clear hb); (try clear hb2); (try clear hk); (try clear hi); (try clear ho0)))
      go_ret
      exact ⟨by rfl, by repeat ((with_reducible (exact HB.out)))⟩
  · rw [if_neg c6] at H
    have c6b0 : (t243 == 0) = false := beq_eq_false_iff_ne.mpr c6
    have c6b1 : (t243 != 0) = true := bne_iff_ne.mpr c6
    obtain rfl := Option.some.inj H
    go_enter Try.func27, Try.ntmps27
    go_wp2_with (first | ((with_reducible refine gate_dst (N := 12) rfl ?_); refine Kd.R_lit k51 _ 51 ?hg (N := 12) ?hd (xs := ([(⟨0, 1, 2⟩ : S51)] : List (S51))) (inner := [.int .i64 0, .int .i64 1, .int .i64 2]) (ok := fun _ => True) (okp := fun _ => True) ?hr ?hp (fun _ hk => hk) trivial (Below.refl _ _) (Nat.le_refl _) (by simp) ?_; (case hd => rfl); (case hg => rfl); (case hr => (go_simp; done)); (case hp => exact (Reps.c3 (show Kd.M k51 _ _ _ (⟨0, 1, 2⟩ : S51) [.int .i64 0, .int .i64 1, .int .i64 2] from (k51_mkM _ _ _ (⟨0, 1, 2⟩ : S51) )) (Reps.none _ _))); intro v240 w68 ho69 hb hg_ hnew_; clear hg_ hnew_; ((rw [← Ny239.out] at ho69)); have n0_ := Aside0.mk (Kd.R_lower ho69 (below_size HB.out)); have HO241 := n0_; clear n0_; replace HB := hb_ HB hb; clear hb ho69; obtain ⟨Ao70, co70, eo70⟩ := Kd.R_slice HO241.out; subst eo70) | ((with_reducible refine gate_callee (f := 26) rfl ?_); refine goesL_ (some 13) rfl rfl Try.func26 (by kernel_rfl) rfl #[.slice Ao70 y239.length co70] rfl (by (try simp only [List.map_toArray, List.map_cons, List.map_nil]); rfl) ?_; (with_reducible refine (port_Open.calls k _ _ y239 t242 t243 _ ?side1 ?side2 A1.out).mono ?_); (case side1 => repeat ((exact (Kd.R_reads' HO241.out).2.2))); (case side2 => exact (Kd.R_reads' HO241.out).2.1); rintro e w71 ⟨v244, rfl, ho0, hb⟩; refine ⟨_, rfl, ?_⟩; have n1_ := Aside0.mk (Kd.S_lower ho0 (below_size HB.out)); have HO245 := n1_; clear n1_; replace HO241 := rb_ HO241 hb; replace HB := hb_ HB hb; (try clear hb); (try clear hb2); (try clear hk); (try clear hi); (try clear ho0); obtain ⟨Ao72, co72, eo72⟩ := Kd.S_slice HO245.out; subst eo72) | ((with_reducible refine gate_callee (f := 28) rfl ?_); refine goesL_ (some 18) rfl rfl Try.func28 (by kernel_rfl) rfl #[.slice Ao72 t242.length co72, .int .i64 0, .int .i64 0, .int .i64 7] rfl (by (try simp only [List.map_toArray, List.map_cons, List.map_nil]); rfl) ?_; (with_reducible refine (port_Send.calls k (fun k_ => (True ∧ some k_ ≠ (.slice Ao70 y239.length co70 : Value).ownBlock)) _ _ t242 0 0 7 t246 t249 _ ?side1 A2.out).mono ?_); (case side1 => exact Kd.S_V (Kd.S_apart' (HO245.out) (Kd.R_typed HO241.out) (by decide))); rintro e w73 ⟨v247, rfl, ho0, hb⟩; refine ⟨_, rfl, ?_⟩; have n2_ := Aside0.mk (Kd.V_lower (Kd.V_mono (ok' := fun k_ => some k_ ≠ (.slice Ao70 y239.length co70 : Value).ownBlock) ho0 (fun k_ hk_ => Or.elim hk_ (fun hs_ => hs_.2) (fun hn_ => (Kd.fresh' (Kd.R_lt HO241.out) k_ hn_)))) (below_size HB.out)); have HO248 := n2_; clear n2_; replace HO241 := rb_ HO241 hb; replace HO245 := sb_ HO245 hb; replace HB := hb_ HB hb; (try clear hb); (try clear hb2); (try clear hk); (try clear hi); (try clear ho0); obtain ⟨Ao74, co74, eo74⟩ := Kd.V_slice HO248.out; subst eo74) | ((with_reducible refine gate_callee (f := 29) rfl ?_); refine goesL_ (some 23) rfl rfl Try.func29 (by kernel_rfl) rfl #[.slice Ao74 t246.length co74, .int .i64 1, .int .i64 0] rfl (by (try simp only [List.map_toArray, List.map_cons, List.map_nil]); rfl) ?_; (with_reducible refine (port_Read.calls k (fun k_ => some k_ ≠ (.slice Ao70 y239.length co70 : Value).ownBlock) _ _ t246 1 0 t250 t251 t254 _ ?side1 A3.out).mono ?_); (case side1 => exact HO248.out); rintro e w75 ⟨v252, rfl, ho0, hb⟩; refine ⟨_, rfl, ?_⟩; have n3_ := Aside0.mk (Kd.V_lower (Kd.V_mono (ok' := fun k_ => some k_ ≠ (.slice Ao70 y239.length co70 : Value).ownBlock) ho0 (fun k_ hk_ => Or.elim hk_ (fun hs_ => hs_) (fun hn_ => (Kd.fresh' (Kd.R_lt HO241.out) k_ hn_)))) (below_size HB.out)); have HO253 := n3_; clear n3_; replace HO241 := rb_ HO241 hb; replace HO245 := sb_ HO245 hb; replace HO248 := vb_ HO248 hb; replace HB := hb_ HB hb; (try clear hb); (try clear hb2); (try clear hk); (try clear hi); (try clear ho0)) | ((with_reducible refine gate_callee (f := 30) rfl ?_); refine goesL_ (some 29) rfl rfl Try.func30 (by kernel_rfl) rfl #[.slice Ao74 t246.length co74] rfl (by (try simp only [List.map_toArray, List.map_cons, List.map_nil]); rfl) ?_; (with_reducible refine (port_Deliver.calls k (fun k_ => some k_ ≠ (.slice Ao70 y239.length co70 : Value).ownBlock) _ _ t246 t255 _ ?side1 A4.out).mono ?_); (case side1 => exact HO248.out); rintro e w76 ⟨v256, rfl, ho0, hb⟩; refine ⟨_, rfl, ?_⟩; have n4_ := Aside0.mk (Kd.V_lower (Kd.V_mono (ok' := fun k_ => some k_ ≠ (.slice Ao70 y239.length co70 : Value).ownBlock) ho0 (fun k_ hk_ => Or.elim hk_ (fun hs_ => hs_) (fun hn_ => (Kd.fresh' (Kd.R_lt HO241.out) k_ hn_)))) (below_size HB.out)); have HO257 := n4_; clear n4_; replace HO241 := rb_ HO241 hb; replace HO245 := sb_ HO245 hb; replace HO248 := vb_ HO248 hb; replace HO253 := vb_ HO253 hb; replace HB := hb_ HB hb; (try clear hb); (try clear hb2); (try clear hk); (try clear hi); (try clear ho0); obtain ⟨Ao77, co77, eo77⟩ := Kd.V_slice HO257.out; subst eo77) | ((with_reducible refine gate_callee (f := 29) rfl ?_); refine goesL_ (some 30) rfl rfl Try.func29 (by kernel_rfl) rfl #[.slice Ao77 t255.length co77, .int .i64 1, .int .i64 0] rfl (by (try simp only [List.map_toArray, List.map_cons, List.map_nil]); rfl) ?_; (with_reducible refine (port_Read.calls k (fun k_ => some k_ ≠ (.slice Ao70 y239.length co70 : Value).ownBlock) _ _ t255 1 0 t258 t259 t262 _ ?side1 A5.out).mono ?_); (case side1 => exact HO257.out); rintro e w78 ⟨v260, rfl, ho0, hb⟩; refine ⟨_, rfl, ?_⟩; have n5_ := Aside0.mk (Kd.V_lower (Kd.V_mono (ok' := fun k_ => some k_ ≠ (.slice Ao70 y239.length co70 : Value).ownBlock) ho0 (fun k_ hk_ => Or.elim hk_ (fun hs_ => hs_) (fun hn_ => (Kd.fresh' (Kd.R_lt HO241.out) k_ hn_)))) (below_size HB.out)); have HO261 := n5_; clear n5_; replace HO241 := rb_ HO241 hb; replace HO245 := sb_ HO245 hb; replace HO248 := vb_ HO248 hb; replace HO253 := vb_ HO253 hb; replace HO257 := vb_ HO257 hb; replace HB := hb_ HB hb; (try clear hb); (try clear hb2); (try clear hk); (try clear hi); (try clear ho0)))
    go_ret
    exact ⟨by rfl, by repeat ((with_reducible (exact HB.out)))⟩

/-! ### remontoirlaw18_great: function 32 -/
def remontoirlaw18_great.l0 : Nat → List (S76) → Int → Option (Bool)
  | 0, _, _ => none
  | k + 1, x0, x3 => if x3 < (x0.length : Int) then (if 0 ≤ x3 then (if (((rd_T76 x0 x3).f1.f0).length : Int) > 20 then (some true) else (if (((rd_T76 x0 x3).f2.f0).length : Int) > 20 then (some true) else (remontoirlaw18_great.l0 k x0 (wrap64 (x3 + 1))))) else (none)) else (some (decide ((x0.length : Int) > 20)))
def remontoirlaw18_great.f (k : Nat) (l0 : List (S76)) : Option (Bool) := remontoirlaw18_great.l0 k l0 0
theorem remontoirlaw18_great.mono_l : ∀ k, (∀ y0 y1, LeO (remontoirlaw18_great.l0 k y0 y1) (remontoirlaw18_great.l0 (k + 1) y0 y1))
  | 0 => fun _ _ r h => by simp [remontoirlaw18_great.l0] at h
  | k + 1 => by
    have ih0 := remontoirlaw18_great.mono_l k
    · intro y0 y1
      unfold remontoirlaw18_great.l0
      repeat' first | (with_reducible exact ih0 _ _) | (with_reducible exact LeO.refl _) | (with_reducible refine LeO.ite ?_ ?_)
theorem remontoirlaw18_great.mono : ∀ a0 k, LeO (remontoirlaw18_great.f k a0) (remontoirlaw18_great.f (k + 1) a0) := by
  intro a0 k
  have ih0 := remontoirlaw18_great.mono_l k
  unfold remontoirlaw18_great.f
  repeat' (with_reducible exact ih0 _ _)
set_option maxHeartbeats 8000000 in
set_option maxRecDepth 100000 in
theorem remontoirlaw18_great.calls (k : Nat) (A0 : Option Addr) (c0 : Nat) (l0 : List (S76)) (r : Bool) (w : World) (hr0 : Kd.C k76 w A0 l0.length l0) (hc0 : l0.length ≤ c0) (h : remontoirlaw18_great.f k l0 = some r) :
    Calls Try.prog 32 #[.slice A0 l0.length c0] w fun e w' => e = .returned (.bool r) ∧ Drawn0 w w' := by
  have HR0 := Aside0.mk hr0
  have HC0 := Aside0.mk hc0
  clear hr0 hc0
  have H : (remontoirlaw18_great.l0 k l0 0) = some r := h
  clear h
  have H' := Aside0.mk H
  clear H
  go_enter Try.func32, Try.ntmps32
  go_wp2
  go_loopg [3] k (fun kq v3 w' => ∃ (x3_1 : Int), v3 = .int .i64 x3_1 ∧ Aside0 (remontoirlaw18_great.l0 kq l0 x3_1 = some r) ∧ Aside0 (kq ≤ k) ∧ Drawn0 w w')
  case atStart => exact ⟨(0), (by rfl), H', ⟨Nat.le_refl _⟩, by repeat ((exact Drawn0.refl _))⟩
  case round =>
    clear H'
    obtain ⟨x3_1, rfl, HA, HK1, ⟨m1, rfl⟩⟩ := hrel
    cases gk with
    | zero => exact absurd HA.out (by simp [remontoirlaw18_great.l0])
    | succ k1 =>
      have H := HA.out
      clear HA
      simp only [remontoirlaw18_great.l0] at H
      by_cases c2 : x3_1 < (l0.length : Int)
      · rw [if_pos c2] at H
        have c2b0 : decide (x3_1 < (l0.length : Int)) = true := decide_eq_true c2
        clear c2
        by_cases c3 : 0 ≤ x3_1
        · rw [if_pos c3] at H
          have c3b0 : decide (0 ≤ x3_1) = true := decide_eq_true c3
          clear c3
          by_cases c4 : (((rd_T76 l0 x3_1).f1.f0).length : Int) > 20
          · rw [if_pos c4] at H
            have c4b0 : decide (20 < (((rd_T76 l0 x3_1).f1.f0).length : Int)) = true := decide_eq_true c4
            have c4b1 : decide (20 < ((rd_T76 l0 x3_1).f1.f0).length) = true := decide_eq_true (by omega)
            clear c4
            obtain rfl := Option.some.inj H
            have p264 : 0 ≤ (x3_1 : Int) := of_decide_eq_true (by (with_reducible assumption))
            have q264 : x3_1 < (l0.length : Int) := of_decide_eq_true (by (with_reducible assumption))
            obtain ⟨ad264, A264_3, c264_3, A264_6, c264_6, e264, hx264_0, hx264_1, hx264_2, hx264_3, hx264_4, hx264_5, hx264_6, hx264_7, hx264_8, hl264_3, hi264_3, hl264_6, hi264_6⟩ := at_T76 HR0.out x3_1 p264 q264
            cases e264
            have HR264_3 := Aside0.mk hi264_3
            have HC264_3 := Aside0.mk hl264_3
            clear hi264_3 hl264_3
            have HR264_6 := Aside0.mk hi264_6
            have HC264_6 := Aside0.mk hl264_6
            clear hi264_6 hl264_6
            replace p264 := eq_true p264
            replace q264 := eq_true q264
            go_wp2
            go_ret
            exact ⟨by rfl, by repeat (first | exact Drawn0.refl _ | apply Drawn0.step)⟩
          · rw [if_neg c4] at H
            have c4b0 : decide (20 < (((rd_T76 l0 x3_1).f1.f0).length : Int)) = false := decide_eq_false c4
            have c4b1 : decide (20 < ((rd_T76 l0 x3_1).f1.f0).length) = false := decide_eq_false (by omega)
            clear c4
            by_cases c5 : (((rd_T76 l0 x3_1).f2.f0).length : Int) > 20
            · rw [if_pos c5] at H
              have c5b0 : decide (20 < (((rd_T76 l0 x3_1).f2.f0).length : Int)) = true := decide_eq_true c5
              have c5b1 : decide (20 < ((rd_T76 l0 x3_1).f2.f0).length) = true := decide_eq_true (by omega)
              clear c5
              obtain rfl := Option.some.inj H
              have p264 : 0 ≤ (x3_1 : Int) := of_decide_eq_true (by (with_reducible assumption))
              have q264 : x3_1 < (l0.length : Int) := of_decide_eq_true (by (with_reducible assumption))
              obtain ⟨ad264, A264_3, c264_3, A264_6, c264_6, e264, hx264_0, hx264_1, hx264_2, hx264_3, hx264_4, hx264_5, hx264_6, hx264_7, hx264_8, hl264_3, hi264_3, hl264_6, hi264_6⟩ := at_T76 HR0.out x3_1 p264 q264
              cases e264
              have HR264_3 := Aside0.mk hi264_3
              have HC264_3 := Aside0.mk hl264_3
              clear hi264_3 hl264_3
              have HR264_6 := Aside0.mk hi264_6
              have HC264_6 := Aside0.mk hl264_6
              clear hi264_6 hl264_6
              replace p264 := eq_true p264
              replace q264 := eq_true q264
              have p265 : 0 ≤ (x3_1 : Int) := of_decide_eq_true (by (with_reducible assumption))
              have q265 : x3_1 < (l0.length : Int) := of_decide_eq_true (by (with_reducible assumption))
              obtain ⟨ad265, A265_3, c265_3, A265_6, c265_6, e265, hx265_0, hx265_1, hx265_2, hx265_3, hx265_4, hx265_5, hx265_6, hx265_7, hx265_8, hl265_3, hi265_3, hl265_6, hi265_6⟩ := at_T76 HR0.out x3_1 p265 q265
              obtain rfl : ad264 = ad265 := (by injection e265)
              have HR265_3 := Aside0.mk hi265_3
              have HC265_3 := Aside0.mk hl265_3
              clear hi265_3 hl265_3
              have HR265_6 := Aside0.mk hi265_6
              have HC265_6 := Aside0.mk hl265_6
              clear hi265_6 hl265_6
              replace p265 := eq_true p265
              replace q265 := eq_true q265
              have ea_ := Option.some.inj (hx264_3.symm.trans hx265_3)
              injection ea_ with ea_ en_ ec_
              subst ea_
              subst ec_
              clear en_
              have ea_ := Option.some.inj (hx264_6.symm.trans hx265_6)
              injection ea_ with ea_ en_ ec_
              subst ea_
              subst ec_
              clear en_
              go_wp2
              go_ret
              exact ⟨by rfl, by repeat (first | exact Drawn0.refl _ | apply Drawn0.step)⟩
            · rw [if_neg c5] at H
              have c5b0 : decide (20 < (((rd_T76 l0 x3_1).f2.f0).length : Int)) = false := decide_eq_false c5
              have c5b1 : decide (20 < ((rd_T76 l0 x3_1).f2.f0).length) = false := decide_eq_false (by omega)
              clear c5
              have H' := Aside0.mk H
              clear H
              have p264 : 0 ≤ (x3_1 : Int) := of_decide_eq_true (by (with_reducible assumption))
              have q264 : x3_1 < (l0.length : Int) := of_decide_eq_true (by (with_reducible assumption))
              obtain ⟨ad264, A264_3, c264_3, A264_6, c264_6, e264, hx264_0, hx264_1, hx264_2, hx264_3, hx264_4, hx264_5, hx264_6, hx264_7, hx264_8, hl264_3, hi264_3, hl264_6, hi264_6⟩ := at_T76 HR0.out x3_1 p264 q264
              cases e264
              have HR264_3 := Aside0.mk hi264_3
              have HC264_3 := Aside0.mk hl264_3
              clear hi264_3 hl264_3
              have HR264_6 := Aside0.mk hi264_6
              have HC264_6 := Aside0.mk hl264_6
              clear hi264_6 hl264_6
              replace p264 := eq_true p264
              replace q264 := eq_true q264
              have p265 : 0 ≤ (x3_1 : Int) := of_decide_eq_true (by (with_reducible assumption))
              have q265 : x3_1 < (l0.length : Int) := of_decide_eq_true (by (with_reducible assumption))
              obtain ⟨ad265, A265_3, c265_3, A265_6, c265_6, e265, hx265_0, hx265_1, hx265_2, hx265_3, hx265_4, hx265_5, hx265_6, hx265_7, hx265_8, hl265_3, hi265_3, hl265_6, hi265_6⟩ := at_T76 HR0.out x3_1 p265 q265
              obtain rfl : ad264 = ad265 := (by injection e265)
              have HR265_3 := Aside0.mk hi265_3
              have HC265_3 := Aside0.mk hl265_3
              clear hi265_3 hl265_3
              have HR265_6 := Aside0.mk hi265_6
              have HC265_6 := Aside0.mk hl265_6
              clear hi265_6 hl265_6
              replace p265 := eq_true p265
              replace q265 := eq_true q265
              have ea_ := Option.some.inj (hx264_3.symm.trans hx265_3)
              injection ea_ with ea_ en_ ec_
              subst ea_
              subst ec_
              clear en_
              have ea_ := Option.some.inj (hx264_6.symm.trans hx265_6)
              injection ea_ with ea_ en_ ec_
              subst ea_
              subst ec_
              clear en_
              go_wp2
              go_roundg k1
              case measure => have := HK1.out; omega
              case rel => exact ⟨(wrap64 (x3_1 + 1)), (by rfl), H', ⟨by have := HK1.out; omega⟩, by repeat (first | exact Drawn0.refl _ | apply Drawn0.step)⟩
        · rw [if_neg c3] at H
          exact absurd H (by simp)
      · rw [if_neg c2] at H
        have c2b0 : decide (x3_1 < (l0.length : Int)) = false := decide_eq_false c2
        clear c2
        obtain rfl := Option.some.inj H
        go_wp2
        go_ret
        exact ⟨by rfl, by repeat (first | exact Drawn0.refl _ | apply Drawn0.step)⟩

/-! ### remontoirref03_Right: function 14 -/
def remontoirref03_Right.f (l0_0 : List Int) (a0_1 : Int) (a0_2 : Int) : Option (Bool) := if (l0_0.length : Int) ≥ 1 then (if a0_1 ≥ 0 then (if a0_1 ≤ (wrap64 ((l0_0.length : Int) - 1)) then (if a0_2 ≥ 0 then (some (decide (a0_2 ≤ (l0_0.length : Int)))) else (some false)) else (some false)) else (some false)) else (some false)
set_option maxHeartbeats 8000000 in
set_option maxRecDepth 100000 in
theorem remontoirref03_Right.calls (A0_0 : Option Addr) (c0_0 : Nat) (l0_0 : List Int) (a0_1 : Int) (a0_2 : Int) (r : Bool) (w : World) (hr0_0 : Kd.C (Kd.int .i64) w A0_0 l0_0.length l0_0) (hc0_0 : l0_0.length ≤ c0_0) (h : remontoirref03_Right.f l0_0 a0_1 a0_2 = some r) :
    Calls Try.prog 14 #[.agg #[.slice A0_0 l0_0.length c0_0, .int .i64 a0_1, .int .i64 a0_2]] w fun e w' => e = .returned (.bool r) ∧ Below w.heap.size w w' := by
  have hu30 := Try.underlying30
  have HR0_0 := Aside0.mk hr0_0
  have HC0_0 := Aside0.mk hc0_0
  clear hr0_0 hc0_0
  have HB := Aside0.mk (Below.refl w.heap.size w)
  have H : (if (l0_0.length : Int) ≥ 1 then (if a0_1 ≥ 0 then (if a0_1 ≤ (wrap64 ((l0_0.length : Int) - 1)) then (if a0_2 ≥ 0 then (some (decide (a0_2 ≤ (l0_0.length : Int)))) else (some false)) else (some false)) else (some false)) else (some false)) = some r := h
  clear h
  by_cases c2 : (l0_0.length : Int) ≥ 1
  · rw [if_pos c2] at H
    have c2b0 : decide (1 ≤ (l0_0.length : Int)) = true := decide_eq_true c2
    have c2b1 : decide (1 ≤ l0_0.length) = true := decide_eq_true (by omega)
    clear c2
    by_cases c3 : a0_1 ≥ 0
    · rw [if_pos c3] at H
      have c3b0 : decide (0 ≤ a0_1) = true := decide_eq_true c3
      clear c3
      by_cases c4 : a0_1 ≤ (wrap64 ((l0_0.length : Int) - 1))
      · rw [if_pos c4] at H
        have c4b0 : decide (a0_1 ≤ (wrap64 ((l0_0.length : Int) - 1))) = true := decide_eq_true c4
        clear c4
        by_cases c5 : a0_2 ≥ 0
        · rw [if_pos c5] at H
          have c5b0 : decide (0 ≤ a0_2) = true := decide_eq_true c5
          clear c5
          obtain rfl := Option.some.inj H
          go_enter Try.func14, Try.ntmps14
          go_wp2_with (((with_reducible refine gate_dst (N := 1) rfl ?_); (try (refine gate_guard (by rfl) ?_; dsimp only)); refine box_event ?hg (N := 1) ?hd (cs := #[.slice A0_0 l0_0.length c0_0, .int .i64 a0_1, .int .i64 a0_2]) (t := 30) ?hr ?_; (case hd => rfl); (case hg => rfl); (case hr => (go_simp; done)); intro gb266 hg w6 hbox hb; have n1_ := Aside0.mk (hbox); have n2_ := Aside0.mk ((by rw [hg]; exact (below_size HB.out) : w.heap.size ≤ gb266)); have n3_ := Aside0.mk ((by rw [hg]; exact (below_size HB.out) : w.heap.size ≤ gb266)); have BK266 := n1_; have GW266 := n2_; have GE266 := n3_; clear n1_ n2_ n3_; replace HB := hb_ HB hb; clear hb hbox hg; obtain ⟨_, _, _, _, _, _⟩ := bk3_ BK266.out))
          go_ret
          exact ⟨by rfl, by repeat ((with_reducible (exact HB.out)))⟩
        · rw [if_neg c5] at H
          have c5b0 : decide (0 ≤ a0_2) = false := decide_eq_false c5
          clear c5
          obtain rfl := Option.some.inj H
          go_enter Try.func14, Try.ntmps14
          go_wp2_with (((with_reducible refine gate_dst (N := 1) rfl ?_); (try (refine gate_guard (by rfl) ?_; dsimp only)); refine box_event ?hg (N := 1) ?hd (cs := #[.slice A0_0 l0_0.length c0_0, .int .i64 a0_1, .int .i64 a0_2]) (t := 30) ?hr ?_; (case hd => rfl); (case hg => rfl); (case hr => (go_simp; done)); intro gb266 hg w8 hbox hb; have n1_ := Aside0.mk (hbox); have n2_ := Aside0.mk ((by rw [hg]; exact (below_size HB.out) : w.heap.size ≤ gb266)); have n3_ := Aside0.mk ((by rw [hg]; exact (below_size HB.out) : w.heap.size ≤ gb266)); have BK266 := n1_; have GW266 := n2_; have GE266 := n3_; clear n1_ n2_ n3_; replace HB := hb_ HB hb; clear hb hbox hg; obtain ⟨hcz9_0, hcz9_1, hcz9_2, hfz9_0, hfz9_1, hfz9_2⟩ := bk3_ BK266.out))
          go_ret
          exact ⟨by rfl, by repeat ((with_reducible (exact HB.out)))⟩
      · rw [if_neg c4] at H
        have c4b0 : decide (a0_1 ≤ (wrap64 ((l0_0.length : Int) - 1))) = false := decide_eq_false c4
        clear c4
        obtain rfl := Option.some.inj H
        go_enter Try.func14, Try.ntmps14
        go_wp2_with (((with_reducible refine gate_dst (N := 1) rfl ?_); (try (refine gate_guard (by rfl) ?_; dsimp only)); refine box_event ?hg (N := 1) ?hd (cs := #[.slice A0_0 l0_0.length c0_0, .int .i64 a0_1, .int .i64 a0_2]) (t := 30) ?hr ?_; (case hd => rfl); (case hg => rfl); (case hr => (go_simp; done)); intro gb266 hg w10 hbox hb; have n1_ := Aside0.mk (hbox); have n2_ := Aside0.mk ((by rw [hg]; exact (below_size HB.out) : w.heap.size ≤ gb266)); have n3_ := Aside0.mk ((by rw [hg]; exact (below_size HB.out) : w.heap.size ≤ gb266)); have BK266 := n1_; have GW266 := n2_; have GE266 := n3_; clear n1_ n2_ n3_; replace HB := hb_ HB hb; clear hb hbox hg; obtain ⟨_, _, _, _, _, _⟩ := bk3_ BK266.out))
        go_ret
        exact ⟨by rfl, by repeat ((with_reducible (exact HB.out)))⟩
    · rw [if_neg c3] at H
      have c3b0 : decide (0 ≤ a0_1) = false := decide_eq_false c3
      clear c3
      obtain rfl := Option.some.inj H
      go_enter Try.func14, Try.ntmps14
      go_wp2_with (((with_reducible refine gate_dst (N := 1) rfl ?_); (try (refine gate_guard (by rfl) ?_; dsimp only)); refine box_event ?hg (N := 1) ?hd (cs := #[.slice A0_0 l0_0.length c0_0, .int .i64 a0_1, .int .i64 a0_2]) (t := 30) ?hr ?_; (case hd => rfl); (case hg => rfl); (case hr => (go_simp; done)); intro gb266 hg w12 hbox hb; have n1_ := Aside0.mk (hbox); have n2_ := Aside0.mk ((by rw [hg]; exact (below_size HB.out) : w.heap.size ≤ gb266)); have n3_ := Aside0.mk ((by rw [hg]; exact (below_size HB.out) : w.heap.size ≤ gb266)); have BK266 := n1_; have GW266 := n2_; have GE266 := n3_; clear n1_ n2_ n3_; replace HB := hb_ HB hb; clear hb hbox hg; obtain ⟨_, _, _, _, _, _⟩ := bk3_ BK266.out))
      go_ret
      exact ⟨by rfl, by repeat ((with_reducible (exact HB.out)))⟩
  · rw [if_neg c2] at H
    have c2b0 : decide (1 ≤ (l0_0.length : Int)) = false := decide_eq_false c2
    have c2b1 : decide (1 ≤ l0_0.length) = false := decide_eq_false (by omega)
    clear c2
    obtain rfl := Option.some.inj H
    go_enter Try.func14, Try.ntmps14
    go_wp2_with (((with_reducible refine gate_dst (N := 1) rfl ?_); (try (refine gate_guard (by rfl) ?_; dsimp only)); refine box_event ?hg (N := 1) ?hd (cs := #[.slice A0_0 l0_0.length c0_0, .int .i64 a0_1, .int .i64 a0_2]) (t := 30) ?hr ?_; (case hd => rfl); (case hg => rfl); (case hr => (go_simp; done)); intro gb266 hg w14 hbox hb; have n1_ := Aside0.mk (hbox); have n2_ := Aside0.mk ((by rw [hg]; exact (below_size HB.out) : w.heap.size ≤ gb266)); have n3_ := Aside0.mk ((by rw [hg]; exact (below_size HB.out) : w.heap.size ≤ gb266)); have BK266 := n1_; have GW266 := n2_; have GE266 := n3_; clear n1_ n2_ n3_; replace HB := hb_ HB hb; clear hb hbox hg; obtain ⟨_, _, _, _, _, _⟩ := bk3_ BK266.out))
    go_ret
    exact ⟨by rfl, by repeat ((with_reducible (exact HB.out)))⟩

end Go.Proofs.Yteddflcloeelhaa.FDeliv
