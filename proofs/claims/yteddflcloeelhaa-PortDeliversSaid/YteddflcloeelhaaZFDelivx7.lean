-- Written by the session (wip/tools) for this claim: functions of the program as Lean functions, and their contracts.
import Derived.Test.YteddflcloeelhaaZXShort
import Derived.Test.YteddflcloeelhaaZFDelivx0
import Derived.Test.YteddflcloeelhaaZFDelivx5
import Derived.Test.YteddflcloeelhaaZFDelivx6
namespace Go.Proofs.Yteddflcloeelhaa.FDeliv
open Go.RowKit Go.Proofs.YteddflcloeelhaaW.PrintWords Go.Proofs.YteddflcloeelhaaW.PrintLast Go.Proofs.YteddflcloeelhaaW.PrintMore
attribute [local go_sem] max2_int min2_int max_two min_two max_three min_three max_four min_four   -- for this text's walks alone
set_option linter.unusedVariables false
set_option linter.unusedSimpArgs false

/-! ### remontoirlaw18_right: function 33 -/
mutual
def remontoirlaw18_right.l0 : Nat → List (S76) → Int → Option (Bool)
 | 0, _, _ => none
 | k + 1, x0, x3 => if x3 < (x0.length : Int) then (if 0 ≤ x3 then ((remontoirlaw03_As.f ((rd_T76 x0 x3).f1.f0) ((rd_T76 x0 x3).f1.f1) ((rd_T76 x0 x3).f1.f2)).bind fun bt271 => ((remontoirlaw03_As.f ((rd_T76 x0 x3).f2.f0) ((rd_T76 x0 x3).f2.f1) ((rd_T76 x0 x3).f2.f2)).bind fun bt277 => ((remontoirref18_May.f ((rd_T76 x0 x3).f0.f0) ((rd_T76 x0 x3).f0.f1) ((rd_T76 x0 x3).f0.f2)).bind fun t285 => (if t285 = true then ((remontoirref03_Right.f bt271.1 bt271.2.1 bt271.2.2).bind fun t286 => (if t286 = true then ((remontoirref03_Right.f bt277.1 bt277.2.1 bt277.2.2).bind fun t287 => (if t287 = true then (if (bt271.1.length : Int) = ((rd_T76 x0 x3).f0.f2) then (remontoirlaw18_right.j1 k x0 x3 ((bt277.1.length : Int) != ((rd_T76 x0 x3).f0.f2))) else (remontoirlaw18_right.j1 k x0 x3 true)) else (remontoirlaw18_right.j1 k x0 x3 true))) else (remontoirlaw18_right.j1 k x0 x3 true))) else (remontoirlaw18_right.j1 k x0 x3 true))))) else (none)) else (some (decide ((x0.length : Int) ≤ 4)))
def remontoirlaw18_right.j1 : Nat → List (S76) → Int → Bool → Option (Bool)
 | 0, _, _, _ => none
 | k + 1, x0, x3, x64 => if x64 = true then (some false) else (remontoirlaw18_right.l0 k x0 (wrap64 (x3 + 1)))
end
def remontoirlaw18_right.f (k : Nat) (l0 : List (S76)) : Option (Bool) := remontoirlaw18_right.l0 k l0 0
theorem remontoirlaw18_right.mono_l : ∀ k, (∀ y0 y1, LeO (remontoirlaw18_right.l0 k y0 y1) (remontoirlaw18_right.l0 (k + 1) y0 y1)) ∧ (∀ y0 y1 y2, LeO (remontoirlaw18_right.j1 k y0 y1 y2) (remontoirlaw18_right.j1 (k + 1) y0 y1 y2))
 | 0 => ⟨fun _ _ r h => by simp [remontoirlaw18_right.l0] at h, fun _ _ _ r h => by simp [remontoirlaw18_right.j1] at h⟩
 | k + 1 => by
  obtain ⟨ih0, ih1⟩ := remontoirlaw18_right.mono_l k
  refine ⟨?_, ?_⟩
  ·
   intro y0 y1
   unfold remontoirlaw18_right.l0
   repeat' first | (with_reducible exact ih1 _ _ _) | (with_reducible exact LeO.refl _) | (with_reducible refine LeO.ite ?_ ?_) | (with_reducible refine LeO.bind ?_ (fun _ => ?_))
  ·
   intro y0 y1 y2
   unfold remontoirlaw18_right.j1
   repeat' first | (with_reducible exact ih0 _ _) | (with_reducible exact LeO.refl _) | (with_reducible refine LeO.ite ?_ ?_)
theorem remontoirlaw18_right.mono : ∀ a0 k, LeO (remontoirlaw18_right.f k a0) (remontoirlaw18_right.f (k + 1) a0) := by
 intro a0 k
 obtain ⟨ih0, ih1⟩ := remontoirlaw18_right.mono_l k
 unfold remontoirlaw18_right.f
 repeat' (with_reducible exact ih0 _ _)
def remontoirlaw18_right.T4 : Bool × List (List Nat × List Nat) := (true, [([], []), ([], []), ([0, 1], [0, 1]), ([2], [2]), ([3], [3]), ([4], [4]), ([], []), ([], []), ([6, 7], [6, 7]), ([8], [8]), ([9], [9]), ([10, 5], [10]), ([], []), ([], []), ([12, 5, 11, 0, 1, 2, 3, 4, 5, 12, 13], [5, 12]), ([13, 11, 14, 0, 1, 2, 3, 4, 5, 6, 7, 8, 9, 10, 11, 12, 13, 14], [11, 13])])
def remontoirlaw18_right.B4 : List Nat := [0, 0, 3, 7, 15, 31, 0, 0, 192, 448, 960, 2047, 0, 0, 16383, 32767]
theorem remontoirlaw18_right.tab4 : rtab .any (opsOf Try.f33 4) = remontoirlaw18_right.T4 := by kernel_rfl
theorem remontoirlaw18_right.bits4 : waitsOk remontoirlaw18_right.T4.2 remontoirlaw18_right.B4 = true := by kernel_rfl
def remontoirlaw18_right.T5 : Bool × List (List Nat × List Nat) := (true, [([], []), ([], []), ([0, 1], [0, 1]), ([2], [2]), ([3], [3]), ([4], [4]), ([5], [5]), ([6, 5], [6]), ([7], [7]), ([8, 7, 7], [7, 8]), ([9, 7], [7, 9]), ([7, 10], [7, 10]), ([11, 9], [11]), ([12], [12]), ([13, 12, 12], [12, 13]), ([14, 12], [12, 14]), ([12, 15], [12, 15]), ([16, 14], [16]), ([17], [17]), ([18, 17], [17, 18]), ([19, 17], [17, 19]), ([17], [17]), ([17], [17]), ([21, 22, 17], [17, 21, 22]), ([23, 17], [17, 23]), ([24, 17], [17, 24]), ([25, 17], [17, 25]), ([20, 26, 17], [17, 20, 26]), ([17, 27], [17, 27]), ([28, 17], [28]), ([29], [29]), ([30, 29], [29, 30]), ([31, 29], [29, 31]), ([29], [29]), ([29], [29]), ([33, 34, 29], [29, 33, 34]), ([35, 29], [29, 35]), ([36, 29], [29, 36]), ([37, 29], [29, 37]), ([32, 38, 29], [29, 32, 38]), ([29, 39], [29, 39])])
def remontoirlaw18_right.B5 : List Nat := [0, 0, 3, 7, 15, 31, 63, 127, 255, 511, 1023, 2047, 4095, 8191, 16383, 32767, 65535, 131071, 262143, 524287, 1048575, 262143, 262143, 6553599, 14942207, 31719423, 65273855, 134217727, 268435455, 536870911, 1073741823, 2147483647, 4294967295, 1073741823, 1073741823, 26843545599, 61203283967, 129922760703, 267361714175, 549755813887, 1099511627775]
theorem remontoirlaw18_right.tab5 : rtab .any (opsOf Try.f33 5) = remontoirlaw18_right.T5 := by kernel_rfl
theorem remontoirlaw18_right.bits5 : waitsOk remontoirlaw18_right.T5.2 remontoirlaw18_right.B5 = true := by kernel_rfl
set_option maxHeartbeats 8000000 in
set_option maxRecDepth 100000 in
theorem remontoirlaw18_right.calls (k : Nat) (A0 : Option Addr) (c0 : Nat) (l0 : List (S76)) (r : Bool) (w : World) (hr0 : Kd.C k76 w A0 l0.length l0) (hc0 : l0.length ≤ c0) (h : remontoirlaw18_right.f k l0 = some r) :
  Calls Try.prog 33 #[.slice A0 l0.length c0] w fun e w' => e = .returned (.bool r) ∧ Below w.heap.size w w' := by
 have hu24 := Try.underlying24
 have hu30 := Try.underlying30
 have hu51 := Try.underlying51
 have HR0 := Aside0.mk hr0
 have HC0 := Aside0.mk hc0
 clear hr0 hc0
 have HB := Aside0.mk (Below.refl w.heap.size w)
 have H : (remontoirlaw18_right.l0 k l0 0) = some r := h
 clear h
 have H' := Aside0.mk H
 clear H
 go_enter Try.func33, Try.ntmps33
 go_wp2
 go_loopg [3] k (fun kq v3 w' => ∃ (x3_1 : Int), v3 = .int .i64 x3_1 ∧ Aside0 (remontoirlaw18_right.l0 kq l0 x3_1 = some r) ∧ Aside0 (kq ≤ k) ∧ Aside0 (Below w.heap.size w w'))
 case atStart => exact ⟨(0), (by rfl), H', ⟨Nat.le_refl _⟩, ⟨HB.out⟩⟩
 case round =>
  clear H'
  obtain ⟨x3_1, rfl, HA, HK1, HB⟩ := hrel
  cases gk with
  | zero => exact absurd HA.out (by simp [remontoirlaw18_right.l0])
  | succ k1 =>
   have H := HA.out
   clear HA
   simp only [remontoirlaw18_right.l0] at H
   by_cases c2 : x3_1 < (l0.length : Int)
   ·
    rw [if_pos c2] at H
    have c2b0 : decide (x3_1 < (l0.length : Int)) = true := decide_eq_true c2
    clear c2
    by_cases c3 : 0 ≤ x3_1
    ·
     rw [if_pos c3] at H
     have c3b0 : decide (0 ≤ x3_1) = true := decide_eq_true c3
     clear c3
     replace H := Option.bind_eq_some_iff.mp H
     obtain ⟨⟨t271, t274, t275⟩, A40, H⟩ := H
     replace H : ((remontoirlaw03_As.f ((rd_T76 l0 x3_1).f2.f0) ((rd_T76 l0 x3_1).f2.f1) ((rd_T76 l0 x3_1).f2.f2)).bind fun bt277 => ((remontoirref18_May.f ((rd_T76 l0 x3_1).f0.f0) ((rd_T76 l0 x3_1).f0.f1) ((rd_T76 l0 x3_1).f0.f2)).bind fun t285 => (if t285 = true then ((remontoirref03_Right.f t271 t274 t275).bind fun t286 => (if t286 = true then ((remontoirref03_Right.f bt277.1 bt277.2.1 bt277.2.2).bind fun t287 => (if t287 = true then (if (t271.length : Int) = ((rd_T76 l0 x3_1).f0.f2) then (remontoirlaw18_right.j1 k1 l0 x3_1 ((bt277.1.length : Int) != ((rd_T76 l0 x3_1).f0.f2))) else (remontoirlaw18_right.j1 k1 l0 x3_1 true)) else (remontoirlaw18_right.j1 k1 l0 x3_1 true))) else (remontoirlaw18_right.j1 k1 l0 x3_1 true))) else (remontoirlaw18_right.j1 k1 l0 x3_1 true)))) = some r := H
     have A4 := Aside0.mk A40
     clear A40
     replace H := Option.bind_eq_some_iff.mp H
     obtain ⟨⟨t277, t280, t281⟩, A50, H⟩ := H
     replace H : ((remontoirref18_May.f ((rd_T76 l0 x3_1).f0.f0) ((rd_T76 l0 x3_1).f0.f1) ((rd_T76 l0 x3_1).f0.f2)).bind fun t285 => (if t285 = true then ((remontoirref03_Right.f t271 t274 t275).bind fun t286 => (if t286 = true then ((remontoirref03_Right.f t277 t280 t281).bind fun t287 => (if t287 = true then (if (t271.length : Int) = ((rd_T76 l0 x3_1).f0.f2) then (remontoirlaw18_right.j1 k1 l0 x3_1 ((t277.length : Int) != ((rd_T76 l0 x3_1).f0.f2))) else (remontoirlaw18_right.j1 k1 l0 x3_1 true)) else (remontoirlaw18_right.j1 k1 l0 x3_1 true))) else (remontoirlaw18_right.j1 k1 l0 x3_1 true))) else (remontoirlaw18_right.j1 k1 l0 x3_1 true))) = some r := H
     have A5 := Aside0.mk A50
     clear A50
     have HC6 := Aside0.mk H
     clear H
     try go_wp2
     have n0_ := Aside0.mk (below_drew1 HB.out)
     clear HB; have HB := n0_; clear n0_
     have p270 : 0 ≤ (x3_1 : Int) := of_decide_eq_true (by (with_reducible assumption))
     have q270 : x3_1 < (l0.length : Int) := of_decide_eq_true (by (with_reducible assumption))
     obtain ⟨ad270, A270_3, c270_3, A270_6, c270_6, e270, hx270_0, hx270_1, hx270_2, hx270_3, hx270_4, hx270_5, hx270_6, hx270_7, hx270_8, hl270_3, hi270_3, hl270_6, hi270_6⟩ := at_T76 HR0.out x3_1 p270 q270
     have hw270_8 := hx270_8
     have hw270_7 := hx270_7
     have hw270_6 := hx270_6
     have hw270_5 := hx270_5
     have hw270_4 := hx270_4
     have hw270_3 := hx270_3
     have hw270_2 := hx270_2
     have hw270_1 := hx270_1
     have hw270_0 := hx270_0
     cases e270
     replace hx270_0 := bc_ HB.out hx270_0
     replace hx270_1 := bc_ HB.out hx270_1
     replace hx270_2 := bc_ HB.out hx270_2
     replace hx270_3 := bc_ HB.out hx270_3
     replace hx270_4 := bc_ HB.out hx270_4
     replace hx270_5 := bc_ HB.out hx270_5
     replace hx270_6 := bc_ HB.out hx270_6
     replace hx270_7 := bc_ HB.out hx270_7
     replace hx270_8 := bc_ HB.out hx270_8
     have HR270_3 := Aside0.mk hi270_3
     have HC270_3 := Aside0.mk hl270_3
     clear hi270_3 hl270_3
     have HR270_6 := Aside0.mk hi270_6
     have HC270_6 := Aside0.mk hl270_6
     clear hi270_6 hl270_6
     replace p270 := eq_true p270
     replace q270 := eq_true q270
     have p276 : 0 ≤ (x3_1 : Int) := of_decide_eq_true (by (with_reducible assumption))
     have q276 : x3_1 < (l0.length : Int) := of_decide_eq_true (by (with_reducible assumption))
     obtain ⟨ad276, A276_3, c276_3, A276_6, c276_6, e276, hx276_0, hx276_1, hx276_2, hx276_3, hx276_4, hx276_5, hx276_6, hx276_7, hx276_8, hl276_3, hi276_3, hl276_6, hi276_6⟩ := at_T76 HR0.out x3_1 p276 q276
     have hw276_8 := hx276_8
     have hw276_7 := hx276_7
     have hw276_6 := hx276_6
     have hw276_5 := hx276_5
     have hw276_4 := hx276_4
     have hw276_3 := hx276_3
     have hw276_2 := hx276_2
     have hw276_1 := hx276_1
     have hw276_0 := hx276_0
     obtain rfl : ad270 = ad276 := (by injection e276)
     replace hx276_0 := bc_ HB.out hx276_0
     replace hx276_1 := bc_ HB.out hx276_1
     replace hx276_2 := bc_ HB.out hx276_2
     replace hx276_3 := bc_ HB.out hx276_3
     replace hx276_4 := bc_ HB.out hx276_4
     replace hx276_5 := bc_ HB.out hx276_5
     replace hx276_6 := bc_ HB.out hx276_6
     replace hx276_7 := bc_ HB.out hx276_7
     replace hx276_8 := bc_ HB.out hx276_8
     have HR276_3 := Aside0.mk hi276_3
     have HC276_3 := Aside0.mk hl276_3
     clear hi276_3 hl276_3
     have HR276_6 := Aside0.mk hi276_6
     have HC276_6 := Aside0.mk hl276_6
     clear hi276_6 hl276_6
     replace p276 := eq_true p276
     replace q276 := eq_true q276
     have ea_ := Option.some.inj (hx270_3.symm.trans hx276_3)
     injection ea_ with ea_ en_ ec_
     subst ea_
     subst ec_
     clear en_
     have ea_ := Option.some.inj (hx270_6.symm.trans hx276_6)
     injection ea_ with ea_ en_ ec_
     subst ea_
     subst ec_
     clear en_
     refine start_ (n := 16) (S := fun w' => hc9_ w' (ad270.add ((x3_1).toNat * 9)) (.int .i64 ((rd_T76 l0 x3_1).f0.f0)) (.int .i64 ((rd_T76 l0 x3_1).f0.f1)) (.int .i64 ((rd_T76 l0 x3_1).f0.f2)) (.slice A270_3 ((rd_T76 l0 x3_1).f1.f0).length c270_3) (.int .i64 ((rd_T76 l0 x3_1).f1.f1)) (.int .i64 ((rd_T76 l0 x3_1).f1.f2)) (.slice A270_6 ((rd_T76 l0 x3_1).f2.f0).length c270_6) (.int .i64 ((rd_T76 l0 x3_1).f2.f1)) (.int .i64 ((rd_T76 l0 x3_1).f2.f2)) (he9_ w' (ad270.add ((x3_1).toNat * 9)) (.int .i64 ((rd_T76 l0 x3_1).f0.f0)) (.int .i64 ((rd_T76 l0 x3_1).f0.f1)) (.int .i64 ((rd_T76 l0 x3_1).f0.f2)) (.slice A270_3 ((rd_T76 l0 x3_1).f1.f0).length c270_3) (.int .i64 ((rd_T76 l0 x3_1).f1.f1)) (.int .i64 ((rd_T76 l0 x3_1).f1.f2)) (.slice A270_6 ((rd_T76 l0 x3_1).f2.f0).length c270_6) (.int .i64 ((rd_T76 l0 x3_1).f2.f1)) (.int .i64 ((rd_T76 l0 x3_1).f2.f2)))) (ds := []) #[false, false, false, false, false, false, false, false, false, false, false, false, false, false, false, false] (by kernel_rfl) rfl rfl ⟨(bc_ HB.out hw270_0 :), (bc_ HB.out hw270_1 :), (bc_ HB.out hw270_2 :), (bc_ HB.out hw270_3 :), (bc_ HB.out hw270_4 :), (bc_ HB.out hw270_5 :), (bc_ HB.out hw270_6 :), (bc_ HB.out hw270_7 :), (bc_ HB.out hw270_8 :), (bc_ HB.out hw276_0 :), (bc_ HB.out hw276_1 :), (bc_ HB.out hw276_2 :), (bc_ HB.out hw276_3 :), (bc_ HB.out hw276_4 :), (bc_ HB.out hw276_5 :), (bc_ HB.out hw276_6 :), (bc_ HB.out hw276_7 :), (bc_ HB.out hw276_8 :)⟩ (fun hHeld => ?_); refine with_tabW remontoirlaw18_right.tab4 remontoirlaw18_right.bits4 (fun HT_ HW_ => ?_)
     generalize wr.drew = w7 at HB HR270_3 HR270_6 HR276_3 HR276_6 hx270_0 hx270_1 hx270_2 hx270_3 hx270_4 hx270_5 hx270_6 hx270_7 hx270_8 hx276_0 hx276_1 hx276_2 hx276_3 hx276_4 hx276_5 hx276_6 hx276_7 hx276_8 hHeld ⊢
     refine pa_ 0 12 (bm 16 0x1) HT_ (h := ?_)
     refine pa_ 1 13 (bm 16 0x3) HT_ (h := ?_)
     refine pa_ 2 14 (bm 16 0x7) HT_ (h := ?_)
     refine pa_ 3 15 (bm 16 0xf) HT_ (h := ?_)
     refine pa_ 6 18 (bm 16 0x4f) HT_ (h := ?_)
     refine pa_ 7 19 (bm 16 0xcf) HT_ (h := ?_)
     refine pa_ 8 20 (bm 16 0x1cf) HT_ (h := ?_)
     refine pa_ 9 21 (bm 16 0x3cf) HT_ (h := ?_)
     refine take_ (i := 4) (N := some 16) (v := ?_) (a' := ?_) (bm 16 0x3df) rfl rfl (take_ofW HT_.out HW_.out (by kernel_rfl)) (fun _ _ _ h => h) (Or.inl ⟨by rfl, ?_⟩) hHeld ?_ ?_
     rotate_left
     ·
      rintro w' ⟨s0, s1, s2, s3, s4, s5, s6, s7, s8, s9, s10, s11, s12, s13, s14, s15, s16, s17⟩
      go_simp
      with_reducible rfl
     rotate_left
     ·
      simp only [Act.put, sbA, sbB, sbC, i64_w, i32_w]
      rfl
     refine take_ (i := 10) (N := some 22) (v := ?_) (a' := ?_) (bm 16 0x7df) rfl rfl (take_ofW HT_.out HW_.out (by kernel_rfl)) (fun _ _ _ h => h) (Or.inl ⟨by rfl, ?_⟩) hHeld ?_ ?_
     rotate_left
     ·
      rintro w' ⟨s0, s1, s2, s3, s4, s5, s6, s7, s8, s9, s10, s11, s12, s13, s14, s15, s16, s17⟩
      go_simp
      with_reducible rfl
     rotate_left
     ·
      simp only [Act.put, sbA, sbB, sbC, i64_w, i32_w]
      rfl
     refine join_ (σ := Value × Value × Nat × Nat) 2 (bm 16 0x3fff) (fun s_ => [(17, .agg #[s_.1, .int .i64 t274, .int .i64 t275]), (23, .agg #[s_.2.1, .int .i64 t280, .int .i64 t281]), (4, .pointer (some ⟨s_.2.2.1, 0, none⟩)), (5, .pointer (some ⟨s_.2.2.2, 0, none⟩))]) (fun s_ w' => (hc9_ w' (ad270.add ((x3_1).toNat * 9)) (.int .i64 ((rd_T76 l0 x3_1).f0.f0)) (.int .i64 ((rd_T76 l0 x3_1).f0.f1)) (.int .i64 ((rd_T76 l0 x3_1).f0.f2)) (.slice A270_3 ((rd_T76 l0 x3_1).f1.f0).length c270_3) (.int .i64 ((rd_T76 l0 x3_1).f1.f1)) (.int .i64 ((rd_T76 l0 x3_1).f1.f2)) (.slice A270_6 ((rd_T76 l0 x3_1).f2.f0).length c270_6) (.int .i64 ((rd_T76 l0 x3_1).f2.f1)) (.int .i64 ((rd_T76 l0 x3_1).f2.f2)) (he9_ w' (ad270.add ((x3_1).toNat * 9)) (.int .i64 ((rd_T76 l0 x3_1).f0.f0)) (.int .i64 ((rd_T76 l0 x3_1).f0.f1)) (.int .i64 ((rd_T76 l0 x3_1).f0.f2)) (.slice A270_3 ((rd_T76 l0 x3_1).f1.f0).length c270_3) (.int .i64 ((rd_T76 l0 x3_1).f1.f1)) (.int .i64 ((rd_T76 l0 x3_1).f1.f2)) (.slice A270_6 ((rd_T76 l0 x3_1).f2.f0).length c270_6) (.int .i64 ((rd_T76 l0 x3_1).f2.f1)) (.int .i64 ((rd_T76 l0 x3_1).f2.f2)))) ∧ (Kd.V (Kd.int .i64) 3 w' w.heap.size (fun k_ => k_ ≠ s_.2.2.1 ∧ k_ ≠ s_.2.2.2) s_.1 t271) ∧ (Kd.V (Kd.int .i64) 3 w' w.heap.size (fun k_ => k_ ≠ s_.2.2.1 ∧ k_ ≠ s_.2.2.2) s_.2.1 t277) ∧ (w'.heap[s_.2.2.1]? = some (.cells #[.slice none 0 0, .int .i64 0, .int .i64 0] 30 (0, 0))) ∧ (w'.heap[s_.2.2.2]? = some (.cells #[.slice none 0 0, .int .i64 0, .int .i64 0] 30 (0, 0))) ∧ (w.heap.size ≤ s_.2.2.1) ∧ (w.heap.size ≤ s_.2.2.1) ∧ (s_.2.2.2 ≠ s_.2.2.1) ∧ (s_.2.2.1 ≠ s_.2.2.2) ∧ (w.heap.size ≤ s_.2.2.2) ∧ (w.heap.size ≤ s_.2.2.2) ∧ (Below w.heap.size w w')) ?_ ?_
     rotate_left
     ·
      intro hJ5_11_12_13
      refine join_ (σ := Value × Value × Nat) 3 (bm 16 0x1fff) (fun s_ => [(17, .agg #[s_.1, .int .i64 t274, .int .i64 t275]), (23, .agg #[s_.2.1, .int .i64 t280, .int .i64 t281]), (4, .pointer (some ⟨s_.2.2, 0, none⟩))]) (fun s_ w' => (hc9_ w' (ad270.add ((x3_1).toNat * 9)) (.int .i64 ((rd_T76 l0 x3_1).f0.f0)) (.int .i64 ((rd_T76 l0 x3_1).f0.f1)) (.int .i64 ((rd_T76 l0 x3_1).f0.f2)) (.slice A270_3 ((rd_T76 l0 x3_1).f1.f0).length c270_3) (.int .i64 ((rd_T76 l0 x3_1).f1.f1)) (.int .i64 ((rd_T76 l0 x3_1).f1.f2)) (.slice A270_6 ((rd_T76 l0 x3_1).f2.f0).length c270_6) (.int .i64 ((rd_T76 l0 x3_1).f2.f1)) (.int .i64 ((rd_T76 l0 x3_1).f2.f2)) (he9_ w' (ad270.add ((x3_1).toNat * 9)) (.int .i64 ((rd_T76 l0 x3_1).f0.f0)) (.int .i64 ((rd_T76 l0 x3_1).f0.f1)) (.int .i64 ((rd_T76 l0 x3_1).f0.f2)) (.slice A270_3 ((rd_T76 l0 x3_1).f1.f0).length c270_3) (.int .i64 ((rd_T76 l0 x3_1).f1.f1)) (.int .i64 ((rd_T76 l0 x3_1).f1.f2)) (.slice A270_6 ((rd_T76 l0 x3_1).f2.f0).length c270_6) (.int .i64 ((rd_T76 l0 x3_1).f2.f1)) (.int .i64 ((rd_T76 l0 x3_1).f2.f2)))) ∧ (Kd.V (Kd.int .i64) 3 w' w.heap.size (fun k_ => k_ ≠ s_.2.2) s_.1 t271) ∧ (Kd.V (Kd.int .i64) 3 w' w.heap.size (fun k_ => k_ ≠ s_.2.2) s_.2.1 t277) ∧ (w'.heap[s_.2.2]? = some (.cells #[.slice none 0 0, .int .i64 0, .int .i64 0] 30 (0, 0))) ∧ (w.heap.size ≤ s_.2.2) ∧ (w.heap.size ≤ s_.2.2) ∧ (Below w.heap.size w w')) ?_ ?_
      rotate_left
      ·
       intro hJ5_11_12
       refine join_ (σ := Value × Value × Nat) 3 (bm 16 0x2fff) (fun s_ => [(17, .agg #[s_.1, .int .i64 t274, .int .i64 t275]), (23, .agg #[s_.2.1, .int .i64 t280, .int .i64 t281]), (5, .pointer (some ⟨s_.2.2, 0, none⟩))]) (fun s_ w' => (hc9_ w' (ad270.add ((x3_1).toNat * 9)) (.int .i64 ((rd_T76 l0 x3_1).f0.f0)) (.int .i64 ((rd_T76 l0 x3_1).f0.f1)) (.int .i64 ((rd_T76 l0 x3_1).f0.f2)) (.slice A270_3 ((rd_T76 l0 x3_1).f1.f0).length c270_3) (.int .i64 ((rd_T76 l0 x3_1).f1.f1)) (.int .i64 ((rd_T76 l0 x3_1).f1.f2)) (.slice A270_6 ((rd_T76 l0 x3_1).f2.f0).length c270_6) (.int .i64 ((rd_T76 l0 x3_1).f2.f1)) (.int .i64 ((rd_T76 l0 x3_1).f2.f2)) (he9_ w' (ad270.add ((x3_1).toNat * 9)) (.int .i64 ((rd_T76 l0 x3_1).f0.f0)) (.int .i64 ((rd_T76 l0 x3_1).f0.f1)) (.int .i64 ((rd_T76 l0 x3_1).f0.f2)) (.slice A270_3 ((rd_T76 l0 x3_1).f1.f0).length c270_3) (.int .i64 ((rd_T76 l0 x3_1).f1.f1)) (.int .i64 ((rd_T76 l0 x3_1).f1.f2)) (.slice A270_6 ((rd_T76 l0 x3_1).f2.f0).length c270_6) (.int .i64 ((rd_T76 l0 x3_1).f2.f1)) (.int .i64 ((rd_T76 l0 x3_1).f2.f2)))) ∧ (Kd.V (Kd.int .i64) 3 w' w.heap.size (fun k_ => k_ ≠ s_.2.2) s_.1 t271) ∧ (Kd.V (Kd.int .i64) 3 w' w.heap.size (fun k_ => k_ ≠ s_.2.2) s_.2.1 t277) ∧ (w'.heap[s_.2.2]? = some (.cells #[.slice none 0 0, .int .i64 0, .int .i64 0] 30 (0, 0))) ∧ (w.heap.size ≤ s_.2.2) ∧ (w.heap.size ≤ s_.2.2) ∧ (Below w.heap.size w w')) ?_ ?_
       rotate_left
       ·
        intro hJ5_11_13
        refine join_ (σ := Value × Nat × Nat) 3 (bm 16 0x37ff) (fun s_ => [(17, .agg #[s_.1, .int .i64 t274, .int .i64 t275]), (4, .pointer (some ⟨s_.2.1, 0, none⟩)), (5, .pointer (some ⟨s_.2.2, 0, none⟩))]) (fun s_ w' => (hc9_ w' (ad270.add ((x3_1).toNat * 9)) (.int .i64 ((rd_T76 l0 x3_1).f0.f0)) (.int .i64 ((rd_T76 l0 x3_1).f0.f1)) (.int .i64 ((rd_T76 l0 x3_1).f0.f2)) (.slice A270_3 ((rd_T76 l0 x3_1).f1.f0).length c270_3) (.int .i64 ((rd_T76 l0 x3_1).f1.f1)) (.int .i64 ((rd_T76 l0 x3_1).f1.f2)) (.slice A270_6 ((rd_T76 l0 x3_1).f2.f0).length c270_6) (.int .i64 ((rd_T76 l0 x3_1).f2.f1)) (.int .i64 ((rd_T76 l0 x3_1).f2.f2)) (he9_ w' (ad270.add ((x3_1).toNat * 9)) (.int .i64 ((rd_T76 l0 x3_1).f0.f0)) (.int .i64 ((rd_T76 l0 x3_1).f0.f1)) (.int .i64 ((rd_T76 l0 x3_1).f0.f2)) (.slice A270_3 ((rd_T76 l0 x3_1).f1.f0).length c270_3) (.int .i64 ((rd_T76 l0 x3_1).f1.f1)) (.int .i64 ((rd_T76 l0 x3_1).f1.f2)) (.slice A270_6 ((rd_T76 l0 x3_1).f2.f0).length c270_6) (.int .i64 ((rd_T76 l0 x3_1).f2.f1)) (.int .i64 ((rd_T76 l0 x3_1).f2.f2)))) ∧ (Kd.V (Kd.int .i64) 3 w' w.heap.size (fun k_ => k_ ≠ s_.2.1 ∧ k_ ≠ s_.2.2) s_.1 t271) ∧ (w'.heap[s_.2.1]? = some (.cells #[.slice none 0 0, .int .i64 0, .int .i64 0] 30 (0, 0))) ∧ (w'.heap[s_.2.2]? = some (.cells #[.slice none 0 0, .int .i64 0, .int .i64 0] 30 (0, 0))) ∧ (w.heap.size ≤ s_.2.1) ∧ (w.heap.size ≤ s_.2.1) ∧ (s_.2.2 ≠ s_.2.1) ∧ (s_.2.1 ≠ s_.2.2) ∧ (w.heap.size ≤ s_.2.2) ∧ (w.heap.size ≤ s_.2.2) ∧ (Below w.heap.size w w')) ?_ ?_
        rotate_left
        ·
         intro hJ5_12_13
         refine join_ (σ := Value × Value) 4 (bm 16 0xfff) (fun s_ => [(17, .agg #[s_.1, .int .i64 t274, .int .i64 t275]), (23, .agg #[s_.2, .int .i64 t280, .int .i64 t281])]) (fun s_ w' => (hc9_ w' (ad270.add ((x3_1).toNat * 9)) (.int .i64 ((rd_T76 l0 x3_1).f0.f0)) (.int .i64 ((rd_T76 l0 x3_1).f0.f1)) (.int .i64 ((rd_T76 l0 x3_1).f0.f2)) (.slice A270_3 ((rd_T76 l0 x3_1).f1.f0).length c270_3) (.int .i64 ((rd_T76 l0 x3_1).f1.f1)) (.int .i64 ((rd_T76 l0 x3_1).f1.f2)) (.slice A270_6 ((rd_T76 l0 x3_1).f2.f0).length c270_6) (.int .i64 ((rd_T76 l0 x3_1).f2.f1)) (.int .i64 ((rd_T76 l0 x3_1).f2.f2)) (he9_ w' (ad270.add ((x3_1).toNat * 9)) (.int .i64 ((rd_T76 l0 x3_1).f0.f0)) (.int .i64 ((rd_T76 l0 x3_1).f0.f1)) (.int .i64 ((rd_T76 l0 x3_1).f0.f2)) (.slice A270_3 ((rd_T76 l0 x3_1).f1.f0).length c270_3) (.int .i64 ((rd_T76 l0 x3_1).f1.f1)) (.int .i64 ((rd_T76 l0 x3_1).f1.f2)) (.slice A270_6 ((rd_T76 l0 x3_1).f2.f0).length c270_6) (.int .i64 ((rd_T76 l0 x3_1).f2.f1)) (.int .i64 ((rd_T76 l0 x3_1).f2.f2)))) ∧ (Kd.V (Kd.int .i64) 3 w' w.heap.size (fun _ => True) s_.1 t271) ∧ (Kd.V (Kd.int .i64) 3 w' w.heap.size (fun _ => True) s_.2 t277) ∧ (Below w.heap.size w w')) ?_ ?_
         rotate_left
         ·
          intro hJ5_11
          refine join_ (σ := Value × Nat) 4 (bm 16 0x17ff) (fun s_ => [(17, .agg #[s_.1, .int .i64 t274, .int .i64 t275]), (4, .pointer (some ⟨s_.2, 0, none⟩))]) (fun s_ w' => (hc9_ w' (ad270.add ((x3_1).toNat * 9)) (.int .i64 ((rd_T76 l0 x3_1).f0.f0)) (.int .i64 ((rd_T76 l0 x3_1).f0.f1)) (.int .i64 ((rd_T76 l0 x3_1).f0.f2)) (.slice A270_3 ((rd_T76 l0 x3_1).f1.f0).length c270_3) (.int .i64 ((rd_T76 l0 x3_1).f1.f1)) (.int .i64 ((rd_T76 l0 x3_1).f1.f2)) (.slice A270_6 ((rd_T76 l0 x3_1).f2.f0).length c270_6) (.int .i64 ((rd_T76 l0 x3_1).f2.f1)) (.int .i64 ((rd_T76 l0 x3_1).f2.f2)) (he9_ w' (ad270.add ((x3_1).toNat * 9)) (.int .i64 ((rd_T76 l0 x3_1).f0.f0)) (.int .i64 ((rd_T76 l0 x3_1).f0.f1)) (.int .i64 ((rd_T76 l0 x3_1).f0.f2)) (.slice A270_3 ((rd_T76 l0 x3_1).f1.f0).length c270_3) (.int .i64 ((rd_T76 l0 x3_1).f1.f1)) (.int .i64 ((rd_T76 l0 x3_1).f1.f2)) (.slice A270_6 ((rd_T76 l0 x3_1).f2.f0).length c270_6) (.int .i64 ((rd_T76 l0 x3_1).f2.f1)) (.int .i64 ((rd_T76 l0 x3_1).f2.f2)))) ∧ (Kd.V (Kd.int .i64) 3 w' w.heap.size (fun k_ => k_ ≠ s_.2) s_.1 t271) ∧ (w'.heap[s_.2]? = some (.cells #[.slice none 0 0, .int .i64 0, .int .i64 0] 30 (0, 0))) ∧ (w.heap.size ≤ s_.2) ∧ (w.heap.size ≤ s_.2) ∧ (Below w.heap.size w w')) ?_ ?_
          rotate_left
          ·
           intro hJ5_12
           refine join_ (σ := Value × Nat) 4 (bm 16 0x27ff) (fun s_ => [(17, .agg #[s_.1, .int .i64 t274, .int .i64 t275]), (5, .pointer (some ⟨s_.2, 0, none⟩))]) (fun s_ w' => (hc9_ w' (ad270.add ((x3_1).toNat * 9)) (.int .i64 ((rd_T76 l0 x3_1).f0.f0)) (.int .i64 ((rd_T76 l0 x3_1).f0.f1)) (.int .i64 ((rd_T76 l0 x3_1).f0.f2)) (.slice A270_3 ((rd_T76 l0 x3_1).f1.f0).length c270_3) (.int .i64 ((rd_T76 l0 x3_1).f1.f1)) (.int .i64 ((rd_T76 l0 x3_1).f1.f2)) (.slice A270_6 ((rd_T76 l0 x3_1).f2.f0).length c270_6) (.int .i64 ((rd_T76 l0 x3_1).f2.f1)) (.int .i64 ((rd_T76 l0 x3_1).f2.f2)) (he9_ w' (ad270.add ((x3_1).toNat * 9)) (.int .i64 ((rd_T76 l0 x3_1).f0.f0)) (.int .i64 ((rd_T76 l0 x3_1).f0.f1)) (.int .i64 ((rd_T76 l0 x3_1).f0.f2)) (.slice A270_3 ((rd_T76 l0 x3_1).f1.f0).length c270_3) (.int .i64 ((rd_T76 l0 x3_1).f1.f1)) (.int .i64 ((rd_T76 l0 x3_1).f1.f2)) (.slice A270_6 ((rd_T76 l0 x3_1).f2.f0).length c270_6) (.int .i64 ((rd_T76 l0 x3_1).f2.f1)) (.int .i64 ((rd_T76 l0 x3_1).f2.f2)))) ∧ (Kd.V (Kd.int .i64) 3 w' w.heap.size (fun k_ => k_ ≠ s_.2) s_.1 t271) ∧ (w'.heap[s_.2]? = some (.cells #[.slice none 0 0, .int .i64 0, .int .i64 0] 30 (0, 0))) ∧ (w.heap.size ≤ s_.2) ∧ (w.heap.size ≤ s_.2) ∧ (Below w.heap.size w w')) ?_ ?_
           rotate_left
           ·
            intro hJ5_13
            refine join_ (σ := Nat × Nat) 4 (bm 16 0x37df) (fun s_ => [(4, .pointer (some ⟨s_.1, 0, none⟩)), (5, .pointer (some ⟨s_.2, 0, none⟩))]) (fun s_ w' => (hc9_ w' (ad270.add ((x3_1).toNat * 9)) (.int .i64 ((rd_T76 l0 x3_1).f0.f0)) (.int .i64 ((rd_T76 l0 x3_1).f0.f1)) (.int .i64 ((rd_T76 l0 x3_1).f0.f2)) (.slice A270_3 ((rd_T76 l0 x3_1).f1.f0).length c270_3) (.int .i64 ((rd_T76 l0 x3_1).f1.f1)) (.int .i64 ((rd_T76 l0 x3_1).f1.f2)) (.slice A270_6 ((rd_T76 l0 x3_1).f2.f0).length c270_6) (.int .i64 ((rd_T76 l0 x3_1).f2.f1)) (.int .i64 ((rd_T76 l0 x3_1).f2.f2)) (he9_ w' (ad270.add ((x3_1).toNat * 9)) (.int .i64 ((rd_T76 l0 x3_1).f0.f0)) (.int .i64 ((rd_T76 l0 x3_1).f0.f1)) (.int .i64 ((rd_T76 l0 x3_1).f0.f2)) (.slice A270_3 ((rd_T76 l0 x3_1).f1.f0).length c270_3) (.int .i64 ((rd_T76 l0 x3_1).f1.f1)) (.int .i64 ((rd_T76 l0 x3_1).f1.f2)) (.slice A270_6 ((rd_T76 l0 x3_1).f2.f0).length c270_6) (.int .i64 ((rd_T76 l0 x3_1).f2.f1)) (.int .i64 ((rd_T76 l0 x3_1).f2.f2)))) ∧ (w'.heap[s_.1]? = some (.cells #[.slice none 0 0, .int .i64 0, .int .i64 0] 30 (0, 0))) ∧ (w'.heap[s_.2]? = some (.cells #[.slice none 0 0, .int .i64 0, .int .i64 0] 30 (0, 0))) ∧ (w.heap.size ≤ s_.1) ∧ (w.heap.size ≤ s_.1) ∧ (s_.2 ≠ s_.1) ∧ (s_.1 ≠ s_.2) ∧ (w.heap.size ≤ s_.2) ∧ (w.heap.size ≤ s_.2) ∧ (Below w.heap.size w w')) ?_ ?_
            rotate_left
            ·
             intro hJ12_13
             refine join_ (σ := Value) 5 (bm 16 0x7ff) (fun s_ => [(17, .agg #[s_, .int .i64 t274, .int .i64 t275])]) (fun s_ w' => (hc9_ w' (ad270.add ((x3_1).toNat * 9)) (.int .i64 ((rd_T76 l0 x3_1).f0.f0)) (.int .i64 ((rd_T76 l0 x3_1).f0.f1)) (.int .i64 ((rd_T76 l0 x3_1).f0.f2)) (.slice A270_3 ((rd_T76 l0 x3_1).f1.f0).length c270_3) (.int .i64 ((rd_T76 l0 x3_1).f1.f1)) (.int .i64 ((rd_T76 l0 x3_1).f1.f2)) (.slice A270_6 ((rd_T76 l0 x3_1).f2.f0).length c270_6) (.int .i64 ((rd_T76 l0 x3_1).f2.f1)) (.int .i64 ((rd_T76 l0 x3_1).f2.f2)) (he9_ w' (ad270.add ((x3_1).toNat * 9)) (.int .i64 ((rd_T76 l0 x3_1).f0.f0)) (.int .i64 ((rd_T76 l0 x3_1).f0.f1)) (.int .i64 ((rd_T76 l0 x3_1).f0.f2)) (.slice A270_3 ((rd_T76 l0 x3_1).f1.f0).length c270_3) (.int .i64 ((rd_T76 l0 x3_1).f1.f1)) (.int .i64 ((rd_T76 l0 x3_1).f1.f2)) (.slice A270_6 ((rd_T76 l0 x3_1).f2.f0).length c270_6) (.int .i64 ((rd_T76 l0 x3_1).f2.f1)) (.int .i64 ((rd_T76 l0 x3_1).f2.f2)))) ∧ (Kd.V (Kd.int .i64) 3 w' w.heap.size (fun _ => True) s_ t271) ∧ (Below w.heap.size w w')) ?_ ?_
             rotate_left
             ·
              intro hJ5
              refine join_ (σ := Nat) 5 (bm 16 0x17df) (fun s_ => [(4, .pointer (some ⟨s_, 0, none⟩))]) (fun s_ w' => (hc9_ w' (ad270.add ((x3_1).toNat * 9)) (.int .i64 ((rd_T76 l0 x3_1).f0.f0)) (.int .i64 ((rd_T76 l0 x3_1).f0.f1)) (.int .i64 ((rd_T76 l0 x3_1).f0.f2)) (.slice A270_3 ((rd_T76 l0 x3_1).f1.f0).length c270_3) (.int .i64 ((rd_T76 l0 x3_1).f1.f1)) (.int .i64 ((rd_T76 l0 x3_1).f1.f2)) (.slice A270_6 ((rd_T76 l0 x3_1).f2.f0).length c270_6) (.int .i64 ((rd_T76 l0 x3_1).f2.f1)) (.int .i64 ((rd_T76 l0 x3_1).f2.f2)) (he9_ w' (ad270.add ((x3_1).toNat * 9)) (.int .i64 ((rd_T76 l0 x3_1).f0.f0)) (.int .i64 ((rd_T76 l0 x3_1).f0.f1)) (.int .i64 ((rd_T76 l0 x3_1).f0.f2)) (.slice A270_3 ((rd_T76 l0 x3_1).f1.f0).length c270_3) (.int .i64 ((rd_T76 l0 x3_1).f1.f1)) (.int .i64 ((rd_T76 l0 x3_1).f1.f2)) (.slice A270_6 ((rd_T76 l0 x3_1).f2.f0).length c270_6) (.int .i64 ((rd_T76 l0 x3_1).f2.f1)) (.int .i64 ((rd_T76 l0 x3_1).f2.f2)))) ∧ (w'.heap[s_]? = some (.cells #[.slice none 0 0, .int .i64 0, .int .i64 0] 30 (0, 0))) ∧ (w.heap.size ≤ s_) ∧ (w.heap.size ≤ s_) ∧ (Below w.heap.size w w')) ?_ ?_
              rotate_left
              ·
               intro hJ12
               refine join_ (σ := Nat) 5 (bm 16 0x27df) (fun s_ => [(5, .pointer (some ⟨s_, 0, none⟩))]) (fun s_ w' => (hc9_ w' (ad270.add ((x3_1).toNat * 9)) (.int .i64 ((rd_T76 l0 x3_1).f0.f0)) (.int .i64 ((rd_T76 l0 x3_1).f0.f1)) (.int .i64 ((rd_T76 l0 x3_1).f0.f2)) (.slice A270_3 ((rd_T76 l0 x3_1).f1.f0).length c270_3) (.int .i64 ((rd_T76 l0 x3_1).f1.f1)) (.int .i64 ((rd_T76 l0 x3_1).f1.f2)) (.slice A270_6 ((rd_T76 l0 x3_1).f2.f0).length c270_6) (.int .i64 ((rd_T76 l0 x3_1).f2.f1)) (.int .i64 ((rd_T76 l0 x3_1).f2.f2)) (he9_ w' (ad270.add ((x3_1).toNat * 9)) (.int .i64 ((rd_T76 l0 x3_1).f0.f0)) (.int .i64 ((rd_T76 l0 x3_1).f0.f1)) (.int .i64 ((rd_T76 l0 x3_1).f0.f2)) (.slice A270_3 ((rd_T76 l0 x3_1).f1.f0).length c270_3) (.int .i64 ((rd_T76 l0 x3_1).f1.f1)) (.int .i64 ((rd_T76 l0 x3_1).f1.f2)) (.slice A270_6 ((rd_T76 l0 x3_1).f2.f0).length c270_6) (.int .i64 ((rd_T76 l0 x3_1).f2.f1)) (.int .i64 ((rd_T76 l0 x3_1).f2.f2)))) ∧ (w'.heap[s_]? = some (.cells #[.slice none 0 0, .int .i64 0, .int .i64 0] 30 (0, 0))) ∧ (w.heap.size ≤ s_) ∧ (w.heap.size ≤ s_) ∧ (Below w.heap.size w w')) ?_ ?_
               rotate_left
               ·
                intro hJ13
                refine three_ (i := 5) (j := 12) (k := 13) (Ni := some 17) (Nj := some 4) (Nk := some 5) (bm 16 0x7ff) (bm 16 0x17df) (bm 16 0x27df) rfl rfl rfl rfl rfl rfl (three_of HT_.out (by kernel_rfl)) (by decide) (by decide) (by decide) (fun K hK => ?_) (fun K hK => ?_) (fun K hK => ?_)
                ·
                 refine goes_ Try.func15 (by kernel_rfl) rfl #[.agg #[.slice A270_3 ((rd_T76 l0 x3_1).f1.f0).length c270_3, .int .i64 ((rd_T76 l0 x3_1).f1.f1), .int .i64 ((rd_T76 l0 x3_1).f1.f2)]] (by rfl) rfl rfl (by (try simp only [List.map_toArray, List.map_cons, List.map_nil]); rfl) ?_
                 with_reducible refine (remontoirlaw03_As.calls (fun k_ => k_ < w.heap.size) _ _ ((rd_T76 l0 x3_1).f1.f0) ((rd_T76 l0 x3_1).f1.f1) ((rd_T76 l0 x3_1).f1.f2) t271 t274 t275 _ ?side1 A4.out).mono ?_
                 (case side1 => exact Kd.V_mk HC270_3.out (Kd.F_below (Kd.C_F (Kd.heap_int .i64) HR270_3.out) HB.out))
                 rintro e w8 ⟨v272, rfl, ho0, hb⟩
                 refine ⟨_, rfl, ?_⟩
                 have n0_ := Aside0.mk (Kd.V_lower (Kd.V_mono (ok' := fun k_ => True) ho0 (fun k_ hk_ => trivial)) (below_size HB.out))
                 have HO273 := n0_; clear n0_; replace HB := hb_ HB hb
                 (try clear hb)
                 (try clear hb2)
                 (try clear hk)
                 (try clear hi)
                 (try clear ho0)
                 refine hK.out _ _ ⟨bc_ HB.out hw270_0, bc_ HB.out hw270_1, bc_ HB.out hw270_2, bc_ HB.out hw270_3, bc_ HB.out hw270_4, bc_ HB.out hw270_5, bc_ HB.out hw270_6, bc_ HB.out hw270_7, bc_ HB.out hw270_8, bc_ HB.out hw276_0, bc_ HB.out hw276_1, bc_ HB.out hw276_2, bc_ HB.out hw276_3, bc_ HB.out hw276_4, bc_ HB.out hw276_5, bc_ HB.out hw276_6, bc_ HB.out hw276_7, bc_ HB.out hw276_8⟩ (fun hHeld => ?_)
                 clear hK K
                 refine nm_ 17 (h := ?_)
                 exact norm_ (by (simp only [putAll, Act.put, sbA, sbB, sbC]; done)) (hJ5 (v272) _ ⟨hHeld, HO273.out, HB.out⟩)
                ·
                 refine box_step ?hg (N := 4) ?hd (cs := #[.slice none 0 0, .int .i64 0, .int .i64 0]) (t := 30) ?hr ?_; (case hd => rfl); (case hg => rfl); (case hr => (go_simp; done))
                 intro gb282 hg w8 hbox hb
                 have n1_ := Aside0.mk (hbox)
                 have n2_ := Aside0.mk ((by rw [hg]; exact (below_size HB.out) : w.heap.size ≤ gb282))
                 have n3_ := Aside0.mk ((by rw [hg]; exact (below_size HB.out) : w.heap.size ≤ gb282))
                 have BK282 := n1_; have GW282 := n2_; have GE282 := n3_; clear n1_ n2_ n3_; replace HB := hb_ HB hb
                 clear hb hbox hg
                 refine hK.out _ _ ⟨bc_ HB.out hw270_0, bc_ HB.out hw270_1, bc_ HB.out hw270_2, bc_ HB.out hw270_3, bc_ HB.out hw270_4, bc_ HB.out hw270_5, bc_ HB.out hw270_6, bc_ HB.out hw270_7, bc_ HB.out hw270_8, bc_ HB.out hw276_0, bc_ HB.out hw276_1, bc_ HB.out hw276_2, bc_ HB.out hw276_3, bc_ HB.out hw276_4, bc_ HB.out hw276_5, bc_ HB.out hw276_6, bc_ HB.out hw276_7, bc_ HB.out hw276_8⟩ (fun hHeld => ?_)
                 clear hK K
                 refine nm_ 4 (h := ?_)
                 exact norm_ (by (simp only [putAll, Act.put, sbA, sbB, sbC]; done)) (hJ12 (gb282) _ ⟨hHeld, BK282.out, GW282.out, GE282.out, HB.out⟩)
                ·
                 refine box_step ?hg (N := 5) ?hd (cs := #[.slice none 0 0, .int .i64 0, .int .i64 0]) (t := 30) ?hr ?_; (case hd => rfl); (case hg => rfl); (case hr => (go_simp; done))
                 intro gb283 hg w8 hbox hb
                 have n1_ := Aside0.mk (hbox)
                 have n2_ := Aside0.mk ((by rw [hg]; exact (below_size HB.out) : w.heap.size ≤ gb283))
                 have n3_ := Aside0.mk ((by rw [hg]; exact (below_size HB.out) : w.heap.size ≤ gb283))
                 have BK283 := n1_; have GW283 := n2_; have GE283 := n3_; clear n1_ n2_ n3_; replace HB := hb_ HB hb
                 clear hb hbox hg
                 refine hK.out _ _ ⟨bc_ HB.out hw270_0, bc_ HB.out hw270_1, bc_ HB.out hw270_2, bc_ HB.out hw270_3, bc_ HB.out hw270_4, bc_ HB.out hw270_5, bc_ HB.out hw270_6, bc_ HB.out hw270_7, bc_ HB.out hw270_8, bc_ HB.out hw276_0, bc_ HB.out hw276_1, bc_ HB.out hw276_2, bc_ HB.out hw276_3, bc_ HB.out hw276_4, bc_ HB.out hw276_5, bc_ HB.out hw276_6, bc_ HB.out hw276_7, bc_ HB.out hw276_8⟩ (fun hHeld => ?_)
                 clear hK K
                 refine nm_ 5 (h := ?_)
                 exact norm_ (by (simp only [putAll, Act.put, sbA, sbB, sbC]; done)) (hJ13 (gb283) _ ⟨hHeld, BK283.out, GW283.out, GE283.out, HB.out⟩)
               ·
                rintro gb283 w9 ⟨hS_, h0_, h1_, h2_, h3_⟩
                have n0_ : Aside0 (w9.heap[gb283]? = some (.cells #[.slice none 0 0, .int .i64 0, .int .i64 0] 30 (0, 0))) := ⟨h0_⟩
                have n1_ : Aside0 (w.heap.size ≤ gb283) := ⟨h1_⟩
                have n2_ : Aside0 (w.heap.size ≤ gb283) := ⟨h2_⟩
                have n3_ : Aside0 (Below w.heap.size w w9) := ⟨h3_⟩
                clear HB
                clear h0_ h1_ h2_ h3_
                have BK283 := n0_
                have GW283 := n1_
                have GE283 := n2_
                have HB := n3_
                clear n0_ n1_ n2_ n3_
                have hHeld : hc9_ w9 (ad270.add ((x3_1).toNat * 9)) (.int .i64 ((rd_T76 l0 x3_1).f0.f0)) (.int .i64 ((rd_T76 l0 x3_1).f0.f1)) (.int .i64 ((rd_T76 l0 x3_1).f0.f2)) (.slice A270_3 ((rd_T76 l0 x3_1).f1.f0).length c270_3) (.int .i64 ((rd_T76 l0 x3_1).f1.f1)) (.int .i64 ((rd_T76 l0 x3_1).f1.f2)) (.slice A270_6 ((rd_T76 l0 x3_1).f2.f0).length c270_6) (.int .i64 ((rd_T76 l0 x3_1).f2.f1)) (.int .i64 ((rd_T76 l0 x3_1).f2.f2)) (he9_ w9 (ad270.add ((x3_1).toNat * 9)) (.int .i64 ((rd_T76 l0 x3_1).f0.f0)) (.int .i64 ((rd_T76 l0 x3_1).f0.f1)) (.int .i64 ((rd_T76 l0 x3_1).f0.f2)) (.slice A270_3 ((rd_T76 l0 x3_1).f1.f0).length c270_3) (.int .i64 ((rd_T76 l0 x3_1).f1.f1)) (.int .i64 ((rd_T76 l0 x3_1).f1.f2)) (.slice A270_6 ((rd_T76 l0 x3_1).f2.f0).length c270_6) (.int .i64 ((rd_T76 l0 x3_1).f2.f1)) (.int .i64 ((rd_T76 l0 x3_1).f2.f2))) := hS_
                refine norm_ (a' := ?_) ?_ ?_
                rotate_left
                ·
                 simp only [putAll, Act.put, sbA, sbB, sbC]
                 rfl
                refine two_ (i := 5) (j := 12) (Ni := some 17) (Nj := some 4) (bm 16 0x27ff) (bm 16 0x37df) rfl rfl rfl rfl (two_of HT_.out (by kernel_rfl)) (by decide) (by decide) (fun K hK => ?_) (fun K hK => ?_)
                ·
                 refine goes_ Try.func15 (by kernel_rfl) rfl #[.agg #[.slice A270_3 ((rd_T76 l0 x3_1).f1.f0).length c270_3, .int .i64 ((rd_T76 l0 x3_1).f1.f1), .int .i64 ((rd_T76 l0 x3_1).f1.f2)]] (by rfl) rfl rfl (by (try simp only [List.map_toArray, List.map_cons, List.map_nil]); rfl) ?_
                 with_reducible refine (remontoirlaw03_As.calls (fun k_ => k_ < w.heap.size) _ _ ((rd_T76 l0 x3_1).f1.f0) ((rd_T76 l0 x3_1).f1.f1) ((rd_T76 l0 x3_1).f1.f2) t271 t274 t275 _ ?side1 A4.out).mono ?_
                 (case side1 => exact Kd.V_mk HC270_3.out (Kd.F_below (Kd.C_F (Kd.heap_int .i64) HR270_3.out) HB.out))
                 rintro e w10 ⟨v272, rfl, ho0, hb⟩
                 refine ⟨_, rfl, ?_⟩
                 have n0_ := Aside0.mk (Kd.V_lower (Kd.V_mono (ok' := fun k_ => k_ ≠ gb283) ho0 (fun k_ hk_ => Or.elim hk_ (fun hs_ => fun e_ => Nat.not_le.2 hs_ (by rw [e_]; exact GW283.out)) (fun hn_ => (Kd.freshB BK283.out k_ hn_)))) (below_size HB.out))
                 have HO273 := n0_; clear n0_; replace BK283 := kb_ BK283 hb; replace HB := hb_ HB hb
                 (try clear hb)
                 (try clear hb2)
                 (try clear hk)
                 (try clear hi)
                 (try clear ho0)
                 refine hK.out _ _ ⟨bc_ HB.out hw270_0, bc_ HB.out hw270_1, bc_ HB.out hw270_2, bc_ HB.out hw270_3, bc_ HB.out hw270_4, bc_ HB.out hw270_5, bc_ HB.out hw270_6, bc_ HB.out hw270_7, bc_ HB.out hw270_8, bc_ HB.out hw276_0, bc_ HB.out hw276_1, bc_ HB.out hw276_2, bc_ HB.out hw276_3, bc_ HB.out hw276_4, bc_ HB.out hw276_5, bc_ HB.out hw276_6, bc_ HB.out hw276_7, bc_ HB.out hw276_8⟩ (fun hHeld => ?_)
                 clear hK K
                 refine nm_ 17 (h := ?_)
                 exact norm_ (by (simp only [putAll, Act.put, sbA, sbB, sbC]; done)) (hJ5_13 (v272, gb283) _ ⟨hHeld, HO273.out, BK283.out, GW283.out, GE283.out, HB.out⟩)
                ·
                 refine box_step ?hg (N := 4) ?hd (cs := #[.slice none 0 0, .int .i64 0, .int .i64 0]) (t := 30) ?hr ?_; (case hd => rfl); (case hg => rfl); (case hr => (go_simp; done))
                 intro gb282 hg w10 hbox hb
                 have n2_ := Aside0.mk (hbox)
                 have n3_ := Aside0.mk ((by rw [hg]; exact (below_size HB.out) : w.heap.size ≤ gb282))
                 have n4_ := Aside0.mk ((by rw [hg]; exact (below_size HB.out) : w.heap.size ≤ gb282))
                 have n5_ := Aside0.mk ((by rw [hg]; exact Nat.ne_of_lt (blk_lt BK283.out) : gb283 ≠ gb282))
                 have n6_ := Aside0.mk ((by rw [hg]; exact Nat.ne_of_gt (blk_lt BK283.out) : gb282 ≠ gb283))
                 have BK282 := n2_; have GW282 := n3_; have GE282 := n4_; have NB283_282 := n5_; have NB282_283 := n6_; clear n2_ n3_ n4_ n5_ n6_; replace BK283 := kb_ BK283 hb; replace HB := hb_ HB hb
                 clear hb hbox hg
                 refine hK.out _ _ ⟨bc_ HB.out hw270_0, bc_ HB.out hw270_1, bc_ HB.out hw270_2, bc_ HB.out hw270_3, bc_ HB.out hw270_4, bc_ HB.out hw270_5, bc_ HB.out hw270_6, bc_ HB.out hw270_7, bc_ HB.out hw270_8, bc_ HB.out hw276_0, bc_ HB.out hw276_1, bc_ HB.out hw276_2, bc_ HB.out hw276_3, bc_ HB.out hw276_4, bc_ HB.out hw276_5, bc_ HB.out hw276_6, bc_ HB.out hw276_7, bc_ HB.out hw276_8⟩ (fun hHeld => ?_)
                 clear hK K
                 refine nm_ 4 (h := ?_)
                 exact norm_ (by (simp only [putAll, Act.put, sbA, sbB, sbC]; done)) (hJ12_13 (gb282, gb283) _ ⟨hHeld, BK282.out, BK283.out, GW282.out, GE282.out, NB283_282.out, NB282_283.out, GW283.out, GE283.out, HB.out⟩)
              ·
               rintro gb282 w9 ⟨hS_, h0_, h1_, h2_, h3_⟩
               have n0_ : Aside0 (w9.heap[gb282]? = some (.cells #[.slice none 0 0, .int .i64 0, .int .i64 0] 30 (0, 0))) := ⟨h0_⟩
               have n1_ : Aside0 (w.heap.size ≤ gb282) := ⟨h1_⟩
               have n2_ : Aside0 (w.heap.size ≤ gb282) := ⟨h2_⟩
               have n3_ : Aside0 (Below w.heap.size w w9) := ⟨h3_⟩
               clear HB
               clear h0_ h1_ h2_ h3_
               have BK282 := n0_
               have GW282 := n1_
               have GE282 := n2_
               have HB := n3_
               clear n0_ n1_ n2_ n3_
               have hHeld : hc9_ w9 (ad270.add ((x3_1).toNat * 9)) (.int .i64 ((rd_T76 l0 x3_1).f0.f0)) (.int .i64 ((rd_T76 l0 x3_1).f0.f1)) (.int .i64 ((rd_T76 l0 x3_1).f0.f2)) (.slice A270_3 ((rd_T76 l0 x3_1).f1.f0).length c270_3) (.int .i64 ((rd_T76 l0 x3_1).f1.f1)) (.int .i64 ((rd_T76 l0 x3_1).f1.f2)) (.slice A270_6 ((rd_T76 l0 x3_1).f2.f0).length c270_6) (.int .i64 ((rd_T76 l0 x3_1).f2.f1)) (.int .i64 ((rd_T76 l0 x3_1).f2.f2)) (he9_ w9 (ad270.add ((x3_1).toNat * 9)) (.int .i64 ((rd_T76 l0 x3_1).f0.f0)) (.int .i64 ((rd_T76 l0 x3_1).f0.f1)) (.int .i64 ((rd_T76 l0 x3_1).f0.f2)) (.slice A270_3 ((rd_T76 l0 x3_1).f1.f0).length c270_3) (.int .i64 ((rd_T76 l0 x3_1).f1.f1)) (.int .i64 ((rd_T76 l0 x3_1).f1.f2)) (.slice A270_6 ((rd_T76 l0 x3_1).f2.f0).length c270_6) (.int .i64 ((rd_T76 l0 x3_1).f2.f1)) (.int .i64 ((rd_T76 l0 x3_1).f2.f2))) := hS_
               refine norm_ (a' := ?_) ?_ ?_
               rotate_left
               ·
                simp only [putAll, Act.put, sbA, sbB, sbC]
                rfl
               refine two_ (i := 5) (j := 13) (Ni := some 17) (Nj := some 5) (bm 16 0x17ff) (bm 16 0x37df) rfl rfl rfl rfl (two_of HT_.out (by kernel_rfl)) (by decide) (by decide) (fun K hK => ?_) (fun K hK => ?_)
               ·
                refine goes_ Try.func15 (by kernel_rfl) rfl #[.agg #[.slice A270_3 ((rd_T76 l0 x3_1).f1.f0).length c270_3, .int .i64 ((rd_T76 l0 x3_1).f1.f1), .int .i64 ((rd_T76 l0 x3_1).f1.f2)]] (by rfl) rfl rfl (by (try simp only [List.map_toArray, List.map_cons, List.map_nil]); rfl) ?_
                with_reducible refine (remontoirlaw03_As.calls (fun k_ => k_ < w.heap.size) _ _ ((rd_T76 l0 x3_1).f1.f0) ((rd_T76 l0 x3_1).f1.f1) ((rd_T76 l0 x3_1).f1.f2) t271 t274 t275 _ ?side1 A4.out).mono ?_
                (case side1 => exact Kd.V_mk HC270_3.out (Kd.F_below (Kd.C_F (Kd.heap_int .i64) HR270_3.out) HB.out))
                rintro e w10 ⟨v272, rfl, ho0, hb⟩
                refine ⟨_, rfl, ?_⟩
                have n0_ := Aside0.mk (Kd.V_lower (Kd.V_mono (ok' := fun k_ => k_ ≠ gb282) ho0 (fun k_ hk_ => Or.elim hk_ (fun hs_ => fun e_ => Nat.not_le.2 hs_ (by rw [e_]; exact GW282.out)) (fun hn_ => (Kd.freshB BK282.out k_ hn_)))) (below_size HB.out))
                have HO273 := n0_; clear n0_; replace BK282 := kb_ BK282 hb; replace HB := hb_ HB hb
                (try clear hb)
                (try clear hb2)
                (try clear hk)
                (try clear hi)
                (try clear ho0)
                refine hK.out _ _ ⟨bc_ HB.out hw270_0, bc_ HB.out hw270_1, bc_ HB.out hw270_2, bc_ HB.out hw270_3, bc_ HB.out hw270_4, bc_ HB.out hw270_5, bc_ HB.out hw270_6, bc_ HB.out hw270_7, bc_ HB.out hw270_8, bc_ HB.out hw276_0, bc_ HB.out hw276_1, bc_ HB.out hw276_2, bc_ HB.out hw276_3, bc_ HB.out hw276_4, bc_ HB.out hw276_5, bc_ HB.out hw276_6, bc_ HB.out hw276_7, bc_ HB.out hw276_8⟩ (fun hHeld => ?_)
                clear hK K
                refine nm_ 17 (h := ?_)
                exact norm_ (by (simp only [putAll, Act.put, sbA, sbB, sbC]; done)) (hJ5_12 (v272, gb282) _ ⟨hHeld, HO273.out, BK282.out, GW282.out, GE282.out, HB.out⟩)
               ·
                refine box_step ?hg (N := 5) ?hd (cs := #[.slice none 0 0, .int .i64 0, .int .i64 0]) (t := 30) ?hr ?_; (case hd => rfl); (case hg => rfl); (case hr => (go_simp; done))
                intro gb283 hg w10 hbox hb
                have n2_ := Aside0.mk (hbox)
                have n3_ := Aside0.mk ((by rw [hg]; exact (below_size HB.out) : w.heap.size ≤ gb283))
                have n4_ := Aside0.mk ((by rw [hg]; exact (below_size HB.out) : w.heap.size ≤ gb283))
                have n5_ := Aside0.mk ((by rw [hg]; exact Nat.ne_of_lt (blk_lt BK282.out) : gb282 ≠ gb283))
                have n6_ := Aside0.mk ((by rw [hg]; exact Nat.ne_of_gt (blk_lt BK282.out) : gb283 ≠ gb282))
                have BK283 := n2_; have GW283 := n3_; have GE283 := n4_; have NB282_283 := n5_; have NB283_282 := n6_; clear n2_ n3_ n4_ n5_ n6_; replace BK282 := kb_ BK282 hb; replace HB := hb_ HB hb
                clear hb hbox hg
                refine hK.out _ _ ⟨bc_ HB.out hw270_0, bc_ HB.out hw270_1, bc_ HB.out hw270_2, bc_ HB.out hw270_3, bc_ HB.out hw270_4, bc_ HB.out hw270_5, bc_ HB.out hw270_6, bc_ HB.out hw270_7, bc_ HB.out hw270_8, bc_ HB.out hw276_0, bc_ HB.out hw276_1, bc_ HB.out hw276_2, bc_ HB.out hw276_3, bc_ HB.out hw276_4, bc_ HB.out hw276_5, bc_ HB.out hw276_6, bc_ HB.out hw276_7, bc_ HB.out hw276_8⟩ (fun hHeld => ?_)
                clear hK K
                refine nm_ 5 (h := ?_)
                exact norm_ (by (simp only [putAll, Act.put, sbA, sbB, sbC]; done)) (hJ12_13 (gb282, gb283) _ ⟨hHeld, BK282.out, BK283.out, GW282.out, GE282.out, NB283_282.out, NB282_283.out, GW283.out, GE283.out, HB.out⟩)
             ·
              rintro v272 w9 ⟨hS_, h0_, h1_⟩
              have n0_ : Aside0 (Kd.V (Kd.int .i64) 3 w9 w.heap.size (fun _ => True) v272 t271) := ⟨h0_⟩
              have n1_ : Aside0 (Below w.heap.size w w9) := ⟨h1_⟩
              clear HB
              clear h0_ h1_
              have HO273 := n0_
              have HB := n1_
              clear n0_ n1_
              have hHeld : hc9_ w9 (ad270.add ((x3_1).toNat * 9)) (.int .i64 ((rd_T76 l0 x3_1).f0.f0)) (.int .i64 ((rd_T76 l0 x3_1).f0.f1)) (.int .i64 ((rd_T76 l0 x3_1).f0.f2)) (.slice A270_3 ((rd_T76 l0 x3_1).f1.f0).length c270_3) (.int .i64 ((rd_T76 l0 x3_1).f1.f1)) (.int .i64 ((rd_T76 l0 x3_1).f1.f2)) (.slice A270_6 ((rd_T76 l0 x3_1).f2.f0).length c270_6) (.int .i64 ((rd_T76 l0 x3_1).f2.f1)) (.int .i64 ((rd_T76 l0 x3_1).f2.f2)) (he9_ w9 (ad270.add ((x3_1).toNat * 9)) (.int .i64 ((rd_T76 l0 x3_1).f0.f0)) (.int .i64 ((rd_T76 l0 x3_1).f0.f1)) (.int .i64 ((rd_T76 l0 x3_1).f0.f2)) (.slice A270_3 ((rd_T76 l0 x3_1).f1.f0).length c270_3) (.int .i64 ((rd_T76 l0 x3_1).f1.f1)) (.int .i64 ((rd_T76 l0 x3_1).f1.f2)) (.slice A270_6 ((rd_T76 l0 x3_1).f2.f0).length c270_6) (.int .i64 ((rd_T76 l0 x3_1).f2.f1)) (.int .i64 ((rd_T76 l0 x3_1).f2.f2))) := hS_
              refine norm_ (a' := ?_) ?_ ?_
              rotate_left
              ·
               simp only [putAll, Act.put, sbA, sbB, sbC]
               rfl
              refine three_ (i := 11) (j := 12) (k := 13) (Ni := some 23) (Nj := some 4) (Nk := some 5) (bm 16 0xfff) (bm 16 0x17ff) (bm 16 0x27ff) rfl rfl rfl rfl rfl rfl (three_of HT_.out (by kernel_rfl)) (by decide) (by decide) (by decide) (fun K hK => ?_) (fun K hK => ?_) (fun K hK => ?_)
              ·
               refine goes_ Try.func15 (by kernel_rfl) rfl #[.agg #[.slice A270_6 ((rd_T76 l0 x3_1).f2.f0).length c270_6, .int .i64 ((rd_T76 l0 x3_1).f2.f1), .int .i64 ((rd_T76 l0 x3_1).f2.f2)]] (by rfl) rfl rfl (by (try simp only [List.map_toArray, List.map_cons, List.map_nil]); rfl) ?_
               with_reducible refine (remontoirlaw03_As.calls (fun k_ => k_ < w.heap.size) _ _ ((rd_T76 l0 x3_1).f2.f0) ((rd_T76 l0 x3_1).f2.f1) ((rd_T76 l0 x3_1).f2.f2) t277 t280 t281 _ ?side1 A5.out).mono ?_
               (case side1 => exact Kd.V_mk HC276_6.out (Kd.F_below (Kd.C_F (Kd.heap_int .i64) HR276_6.out) HB.out))
               rintro e w10 ⟨v278, rfl, ho0, hb⟩
               refine ⟨_, rfl, ?_⟩
               have n1_ := Aside0.mk (Kd.V_lower (Kd.V_mono (ok' := fun k_ => True) ho0 (fun k_ hk_ => trivial)) (below_size HB.out))
               have HO279 := n1_; clear n1_; replace HO273 := vb_ HO273 hb; replace HB := hb_ HB hb
               (try clear hb)
               (try clear hb2)
               (try clear hk)
               (try clear hi)
               (try clear ho0)
               refine hK.out _ _ ⟨bc_ HB.out hw270_0, bc_ HB.out hw270_1, bc_ HB.out hw270_2, bc_ HB.out hw270_3, bc_ HB.out hw270_4, bc_ HB.out hw270_5, bc_ HB.out hw270_6, bc_ HB.out hw270_7, bc_ HB.out hw270_8, bc_ HB.out hw276_0, bc_ HB.out hw276_1, bc_ HB.out hw276_2, bc_ HB.out hw276_3, bc_ HB.out hw276_4, bc_ HB.out hw276_5, bc_ HB.out hw276_6, bc_ HB.out hw276_7, bc_ HB.out hw276_8⟩ (fun hHeld => ?_)
               clear hK K
               refine nm_ 23 (h := ?_)
               exact norm_ (by (simp only [putAll, Act.put, sbA, sbB, sbC]; done)) (hJ5_11 (v272, v278) _ ⟨hHeld, HO273.out, HO279.out, HB.out⟩)
              ·
               refine box_step ?hg (N := 4) ?hd (cs := #[.slice none 0 0, .int .i64 0, .int .i64 0]) (t := 30) ?hr ?_; (case hd => rfl); (case hg => rfl); (case hr => (go_simp; done))
               intro gb282 hg w10 hbox hb
               have n0_ := Aside0.mk (Kd.V_below (Kd.V_elderB HO273.out gb282 (Nat.le_of_eq hg.symm)) hb)
               have n2_ := Aside0.mk (hbox)
               have n3_ := Aside0.mk ((by rw [hg]; exact (below_size HB.out) : w.heap.size ≤ gb282))
               have n4_ := Aside0.mk ((by rw [hg]; exact (below_size HB.out) : w.heap.size ≤ gb282))
               clear HO273; have HO273 := n0_; have BK282 := n2_; have GW282 := n3_; have GE282 := n4_; clear n0_ n2_ n3_ n4_; replace HB := hb_ HB hb
               clear hb hbox hg
               refine hK.out _ _ ⟨bc_ HB.out hw270_0, bc_ HB.out hw270_1, bc_ HB.out hw270_2, bc_ HB.out hw270_3, bc_ HB.out hw270_4, bc_ HB.out hw270_5, bc_ HB.out hw270_6, bc_ HB.out hw270_7, bc_ HB.out hw270_8, bc_ HB.out hw276_0, bc_ HB.out hw276_1, bc_ HB.out hw276_2, bc_ HB.out hw276_3, bc_ HB.out hw276_4, bc_ HB.out hw276_5, bc_ HB.out hw276_6, bc_ HB.out hw276_7, bc_ HB.out hw276_8⟩ (fun hHeld => ?_)
               clear hK K
               refine nm_ 4 (h := ?_)
               exact norm_ (by (simp only [putAll, Act.put, sbA, sbB, sbC]; done)) (hJ5_12 (v272, gb282) _ ⟨hHeld, (by exact Kd.V_mono HO273.out (fun _ hk => hk.2)), BK282.out, GW282.out, GE282.out, HB.out⟩)
              ·
               refine box_step ?hg (N := 5) ?hd (cs := #[.slice none 0 0, .int .i64 0, .int .i64 0]) (t := 30) ?hr ?_; (case hd => rfl); (case hg => rfl); (case hr => (go_simp; done))
               intro gb283 hg w10 hbox hb
               have n0_ := Aside0.mk (Kd.V_below (Kd.V_elderB HO273.out gb283 (Nat.le_of_eq hg.symm)) hb)
               have n2_ := Aside0.mk (hbox)
               have n3_ := Aside0.mk ((by rw [hg]; exact (below_size HB.out) : w.heap.size ≤ gb283))
               have n4_ := Aside0.mk ((by rw [hg]; exact (below_size HB.out) : w.heap.size ≤ gb283))
               clear HO273; have HO273 := n0_; have BK283 := n2_; have GW283 := n3_; have GE283 := n4_; clear n0_ n2_ n3_ n4_; replace HB := hb_ HB hb
               clear hb hbox hg
               refine hK.out _ _ ⟨bc_ HB.out hw270_0, bc_ HB.out hw270_1, bc_ HB.out hw270_2, bc_ HB.out hw270_3, bc_ HB.out hw270_4, bc_ HB.out hw270_5, bc_ HB.out hw270_6, bc_ HB.out hw270_7, bc_ HB.out hw270_8, bc_ HB.out hw276_0, bc_ HB.out hw276_1, bc_ HB.out hw276_2, bc_ HB.out hw276_3, bc_ HB.out hw276_4, bc_ HB.out hw276_5, bc_ HB.out hw276_6, bc_ HB.out hw276_7, bc_ HB.out hw276_8⟩ (fun hHeld => ?_)
               clear hK K
               refine nm_ 5 (h := ?_)
               exact norm_ (by (simp only [putAll, Act.put, sbA, sbB, sbC]; done)) (hJ5_13 (v272, gb283) _ ⟨hHeld, (by exact Kd.V_mono HO273.out (fun _ hk => hk.2)), BK283.out, GW283.out, GE283.out, HB.out⟩)
            ·
             rintro ⟨gb282, gb283⟩ w10 ⟨hS_, h0_, h1_, h2_, h3_, h4_, h5_, h6_, h7_, h8_⟩
             have n0_ : Aside0 (w10.heap[gb282]? = some (.cells #[.slice none 0 0, .int .i64 0, .int .i64 0] 30 (0, 0))) := ⟨h0_⟩
             have n1_ : Aside0 (w10.heap[gb283]? = some (.cells #[.slice none 0 0, .int .i64 0, .int .i64 0] 30 (0, 0))) := ⟨h1_⟩
             have n2_ : Aside0 (w.heap.size ≤ gb282) := ⟨h2_⟩
             have n3_ : Aside0 (w.heap.size ≤ gb282) := ⟨h3_⟩
             have n4_ : Aside0 (gb283 ≠ gb282) := ⟨h4_⟩
             have n5_ : Aside0 (gb282 ≠ gb283) := ⟨h5_⟩
             have n6_ : Aside0 (w.heap.size ≤ gb283) := ⟨h6_⟩
             have n7_ : Aside0 (w.heap.size ≤ gb283) := ⟨h7_⟩
             have n8_ : Aside0 (Below w.heap.size w w10) := ⟨h8_⟩
             clear HB
             clear h0_ h1_ h2_ h3_ h4_ h5_ h6_ h7_ h8_
             have BK282 := n0_
             have BK283 := n1_
             have GW282 := n2_
             have GE282 := n3_
             have NB283_282 := n4_
             have NB282_283 := n5_
             have GW283 := n6_
             have GE283 := n7_
             have HB := n8_
             clear n0_ n1_ n2_ n3_ n4_ n5_ n6_ n7_ n8_
             have hHeld : hc9_ w10 (ad270.add ((x3_1).toNat * 9)) (.int .i64 ((rd_T76 l0 x3_1).f0.f0)) (.int .i64 ((rd_T76 l0 x3_1).f0.f1)) (.int .i64 ((rd_T76 l0 x3_1).f0.f2)) (.slice A270_3 ((rd_T76 l0 x3_1).f1.f0).length c270_3) (.int .i64 ((rd_T76 l0 x3_1).f1.f1)) (.int .i64 ((rd_T76 l0 x3_1).f1.f2)) (.slice A270_6 ((rd_T76 l0 x3_1).f2.f0).length c270_6) (.int .i64 ((rd_T76 l0 x3_1).f2.f1)) (.int .i64 ((rd_T76 l0 x3_1).f2.f2)) (he9_ w10 (ad270.add ((x3_1).toNat * 9)) (.int .i64 ((rd_T76 l0 x3_1).f0.f0)) (.int .i64 ((rd_T76 l0 x3_1).f0.f1)) (.int .i64 ((rd_T76 l0 x3_1).f0.f2)) (.slice A270_3 ((rd_T76 l0 x3_1).f1.f0).length c270_3) (.int .i64 ((rd_T76 l0 x3_1).f1.f1)) (.int .i64 ((rd_T76 l0 x3_1).f1.f2)) (.slice A270_6 ((rd_T76 l0 x3_1).f2.f0).length c270_6) (.int .i64 ((rd_T76 l0 x3_1).f2.f1)) (.int .i64 ((rd_T76 l0 x3_1).f2.f2))) := hS_
             refine norm_ (a' := ?_) ?_ ?_
             rotate_left
             ·
              simp only [putAll, Act.put, sbA, sbB, sbC]
              rfl
             refine one_ (i := 5) (N := some 17) (bm 16 0x37ff) rfl rfl (one_of HT_.out (by kernel_rfl)) (by decide) (fun K hK => ?_)
             refine goes_ Try.func15 (by kernel_rfl) rfl #[.agg #[.slice A270_3 ((rd_T76 l0 x3_1).f1.f0).length c270_3, .int .i64 ((rd_T76 l0 x3_1).f1.f1), .int .i64 ((rd_T76 l0 x3_1).f1.f2)]] (by rfl) rfl rfl (by (try simp only [List.map_toArray, List.map_cons, List.map_nil]); rfl) ?_
             with_reducible refine (remontoirlaw03_As.calls (fun k_ => k_ < w.heap.size) _ _ ((rd_T76 l0 x3_1).f1.f0) ((rd_T76 l0 x3_1).f1.f1) ((rd_T76 l0 x3_1).f1.f2) t271 t274 t275 _ ?side1 A4.out).mono ?_
             (case side1 => exact Kd.V_mk HC270_3.out (Kd.F_below (Kd.C_F (Kd.heap_int .i64) HR270_3.out) HB.out))
             rintro e w11 ⟨v272, rfl, ho0, hb⟩
             refine ⟨_, rfl, ?_⟩
             have n0_ := Aside0.mk (Kd.V_lower (Kd.V_mono (ok' := fun k_ => k_ ≠ gb282 ∧ k_ ≠ gb283) ho0 (fun k_ hk_ => ⟨Or.elim hk_ (fun hs_ => fun e_ => Nat.not_le.2 hs_ (by rw [e_]; exact GW282.out)) (fun hn_ => (Kd.freshB BK282.out k_ hn_)), Or.elim hk_ (fun hs_ => fun e_ => Nat.not_le.2 hs_ (by rw [e_]; exact GW283.out)) (fun hn_ => (Kd.freshB BK283.out k_ hn_))⟩)) (below_size HB.out))
             have HO273 := n0_; clear n0_; replace BK282 := kb_ BK282 hb; replace BK283 := kb_ BK283 hb; replace HB := hb_ HB hb
             (try clear hb)
             (try clear hb2)
             (try clear hk)
             (try clear hi)
             (try clear ho0)
             refine hK.out _ _ ⟨bc_ HB.out hw270_0, bc_ HB.out hw270_1, bc_ HB.out hw270_2, bc_ HB.out hw270_3, bc_ HB.out hw270_4, bc_ HB.out hw270_5, bc_ HB.out hw270_6, bc_ HB.out hw270_7, bc_ HB.out hw270_8, bc_ HB.out hw276_0, bc_ HB.out hw276_1, bc_ HB.out hw276_2, bc_ HB.out hw276_3, bc_ HB.out hw276_4, bc_ HB.out hw276_5, bc_ HB.out hw276_6, bc_ HB.out hw276_7, bc_ HB.out hw276_8⟩ (fun hHeld => ?_)
             clear hK K
             refine nm_ 17 (h := ?_)
             exact norm_ (by (simp only [putAll, Act.put, sbA, sbB, sbC]; done)) (hJ5_12_13 (v272, gb282, gb283) _ ⟨hHeld, HO273.out, BK282.out, BK283.out, GW282.out, GE282.out, NB283_282.out, NB282_283.out, GW283.out, GE283.out, HB.out⟩)
           ·
            rintro ⟨v272, gb283⟩ w10 ⟨hS_, h0_, h1_, h2_, h3_, h4_⟩
            have n0_ : Aside0 (Kd.V (Kd.int .i64) 3 w10 w.heap.size (fun k_ => k_ ≠ gb283) v272 t271) := ⟨h0_⟩
            have n1_ : Aside0 (w10.heap[gb283]? = some (.cells #[.slice none 0 0, .int .i64 0, .int .i64 0] 30 (0, 0))) := ⟨h1_⟩
            have n2_ : Aside0 (w.heap.size ≤ gb283) := ⟨h2_⟩
            have n3_ : Aside0 (w.heap.size ≤ gb283) := ⟨h3_⟩
            have n4_ : Aside0 (Below w.heap.size w w10) := ⟨h4_⟩
            clear HB
            clear h0_ h1_ h2_ h3_ h4_
            have HO273 := n0_
            have BK283 := n1_
            have GW283 := n2_
            have GE283 := n3_
            have HB := n4_
            clear n0_ n1_ n2_ n3_ n4_
            have hHeld : hc9_ w10 (ad270.add ((x3_1).toNat * 9)) (.int .i64 ((rd_T76 l0 x3_1).f0.f0)) (.int .i64 ((rd_T76 l0 x3_1).f0.f1)) (.int .i64 ((rd_T76 l0 x3_1).f0.f2)) (.slice A270_3 ((rd_T76 l0 x3_1).f1.f0).length c270_3) (.int .i64 ((rd_T76 l0 x3_1).f1.f1)) (.int .i64 ((rd_T76 l0 x3_1).f1.f2)) (.slice A270_6 ((rd_T76 l0 x3_1).f2.f0).length c270_6) (.int .i64 ((rd_T76 l0 x3_1).f2.f1)) (.int .i64 ((rd_T76 l0 x3_1).f2.f2)) (he9_ w10 (ad270.add ((x3_1).toNat * 9)) (.int .i64 ((rd_T76 l0 x3_1).f0.f0)) (.int .i64 ((rd_T76 l0 x3_1).f0.f1)) (.int .i64 ((rd_T76 l0 x3_1).f0.f2)) (.slice A270_3 ((rd_T76 l0 x3_1).f1.f0).length c270_3) (.int .i64 ((rd_T76 l0 x3_1).f1.f1)) (.int .i64 ((rd_T76 l0 x3_1).f1.f2)) (.slice A270_6 ((rd_T76 l0 x3_1).f2.f0).length c270_6) (.int .i64 ((rd_T76 l0 x3_1).f2.f1)) (.int .i64 ((rd_T76 l0 x3_1).f2.f2))) := hS_
            refine norm_ (a' := ?_) ?_ ?_
            rotate_left
            ·
             simp only [putAll, Act.put, sbA, sbB, sbC]
             rfl
            refine two_ (i := 11) (j := 12) (Ni := some 23) (Nj := some 4) (bm 16 0x2fff) (bm 16 0x37ff) rfl rfl rfl rfl (two_of HT_.out (by kernel_rfl)) (by decide) (by decide) (fun K hK => ?_) (fun K hK => ?_)
            ·
             refine goes_ Try.func15 (by kernel_rfl) rfl #[.agg #[.slice A270_6 ((rd_T76 l0 x3_1).f2.f0).length c270_6, .int .i64 ((rd_T76 l0 x3_1).f2.f1), .int .i64 ((rd_T76 l0 x3_1).f2.f2)]] (by rfl) rfl rfl (by (try simp only [List.map_toArray, List.map_cons, List.map_nil]); rfl) ?_
             with_reducible refine (remontoirlaw03_As.calls (fun k_ => k_ < w.heap.size) _ _ ((rd_T76 l0 x3_1).f2.f0) ((rd_T76 l0 x3_1).f2.f1) ((rd_T76 l0 x3_1).f2.f2) t277 t280 t281 _ ?side1 A5.out).mono ?_
             (case side1 => exact Kd.V_mk HC276_6.out (Kd.F_below (Kd.C_F (Kd.heap_int .i64) HR276_6.out) HB.out))
             rintro e w11 ⟨v278, rfl, ho0, hb⟩
             refine ⟨_, rfl, ?_⟩
             have n1_ := Aside0.mk (Kd.V_lower (Kd.V_mono (ok' := fun k_ => k_ ≠ gb283) ho0 (fun k_ hk_ => Or.elim hk_ (fun hs_ => fun e_ => Nat.not_le.2 hs_ (by rw [e_]; exact GW283.out)) (fun hn_ => (Kd.freshB BK283.out k_ hn_)))) (below_size HB.out))
             have HO279 := n1_; clear n1_; replace HO273 := vb_ HO273 hb; replace BK283 := kb_ BK283 hb; replace HB := hb_ HB hb
             (try clear hb)
             (try clear hb2)
             (try clear hk)
             (try clear hi)
             (try clear ho0)
             refine hK.out _ _ ⟨bc_ HB.out hw270_0, bc_ HB.out hw270_1, bc_ HB.out hw270_2, bc_ HB.out hw270_3, bc_ HB.out hw270_4, bc_ HB.out hw270_5, bc_ HB.out hw270_6, bc_ HB.out hw270_7, bc_ HB.out hw270_8, bc_ HB.out hw276_0, bc_ HB.out hw276_1, bc_ HB.out hw276_2, bc_ HB.out hw276_3, bc_ HB.out hw276_4, bc_ HB.out hw276_5, bc_ HB.out hw276_6, bc_ HB.out hw276_7, bc_ HB.out hw276_8⟩ (fun hHeld => ?_)
             clear hK K
             refine nm_ 23 (h := ?_)
             exact norm_ (by (simp only [putAll, Act.put, sbA, sbB, sbC]; done)) (hJ5_11_13 (v272, v278, gb283) _ ⟨hHeld, HO273.out, HO279.out, BK283.out, GW283.out, GE283.out, HB.out⟩)
            ·
             refine box_step ?hg (N := 4) ?hd (cs := #[.slice none 0 0, .int .i64 0, .int .i64 0]) (t := 30) ?hr ?_; (case hd => rfl); (case hg => rfl); (case hr => (go_simp; done))
             intro gb282 hg w11 hbox hb
             have n0_ := Aside0.mk (Kd.V_below (Kd.V_elderB HO273.out gb282 (Nat.le_of_eq hg.symm)) hb)
             have n3_ := Aside0.mk (hbox)
             have n4_ := Aside0.mk ((by rw [hg]; exact (below_size HB.out) : w.heap.size ≤ gb282))
             have n5_ := Aside0.mk ((by rw [hg]; exact (below_size HB.out) : w.heap.size ≤ gb282))
             have n6_ := Aside0.mk ((by rw [hg]; exact Nat.ne_of_lt (blk_lt BK283.out) : gb283 ≠ gb282))
             have n7_ := Aside0.mk ((by rw [hg]; exact Nat.ne_of_gt (blk_lt BK283.out) : gb282 ≠ gb283))
             clear HO273; have HO273 := n0_; have BK282 := n3_; have GW282 := n4_; have GE282 := n5_; have NB283_282 := n6_; have NB282_283 := n7_; clear n0_ n3_ n4_ n5_ n6_ n7_; replace BK283 := kb_ BK283 hb; replace HB := hb_ HB hb
             clear hb hbox hg
             refine hK.out _ _ ⟨bc_ HB.out hw270_0, bc_ HB.out hw270_1, bc_ HB.out hw270_2, bc_ HB.out hw270_3, bc_ HB.out hw270_4, bc_ HB.out hw270_5, bc_ HB.out hw270_6, bc_ HB.out hw270_7, bc_ HB.out hw270_8, bc_ HB.out hw276_0, bc_ HB.out hw276_1, bc_ HB.out hw276_2, bc_ HB.out hw276_3, bc_ HB.out hw276_4, bc_ HB.out hw276_5, bc_ HB.out hw276_6, bc_ HB.out hw276_7, bc_ HB.out hw276_8⟩ (fun hHeld => ?_)
             clear hK K
             refine nm_ 4 (h := ?_)
             exact norm_ (by (simp only [putAll, Act.put, sbA, sbB, sbC]; done)) (hJ5_12_13 (v272, gb282, gb283) _ ⟨hHeld, (by exact Kd.V_mono HO273.out (fun _ hk => ⟨hk.2, hk.1⟩)), BK282.out, BK283.out, GW282.out, GE282.out, NB283_282.out, NB282_283.out, GW283.out, GE283.out, HB.out⟩)
          ·
           rintro ⟨v272, gb282⟩ w10 ⟨hS_, h0_, h1_, h2_, h3_, h4_⟩
           have n0_ : Aside0 (Kd.V (Kd.int .i64) 3 w10 w.heap.size (fun k_ => k_ ≠ gb282) v272 t271) := ⟨h0_⟩
           have n1_ : Aside0 (w10.heap[gb282]? = some (.cells #[.slice none 0 0, .int .i64 0, .int .i64 0] 30 (0, 0))) := ⟨h1_⟩
           have n2_ : Aside0 (w.heap.size ≤ gb282) := ⟨h2_⟩
           have n3_ : Aside0 (w.heap.size ≤ gb282) := ⟨h3_⟩
           have n4_ : Aside0 (Below w.heap.size w w10) := ⟨h4_⟩
           clear HB
           clear h0_ h1_ h2_ h3_ h4_
           have HO273 := n0_
           have BK282 := n1_
           have GW282 := n2_
           have GE282 := n3_
           have HB := n4_
           clear n0_ n1_ n2_ n3_ n4_
           have hHeld : hc9_ w10 (ad270.add ((x3_1).toNat * 9)) (.int .i64 ((rd_T76 l0 x3_1).f0.f0)) (.int .i64 ((rd_T76 l0 x3_1).f0.f1)) (.int .i64 ((rd_T76 l0 x3_1).f0.f2)) (.slice A270_3 ((rd_T76 l0 x3_1).f1.f0).length c270_3) (.int .i64 ((rd_T76 l0 x3_1).f1.f1)) (.int .i64 ((rd_T76 l0 x3_1).f1.f2)) (.slice A270_6 ((rd_T76 l0 x3_1).f2.f0).length c270_6) (.int .i64 ((rd_T76 l0 x3_1).f2.f1)) (.int .i64 ((rd_T76 l0 x3_1).f2.f2)) (he9_ w10 (ad270.add ((x3_1).toNat * 9)) (.int .i64 ((rd_T76 l0 x3_1).f0.f0)) (.int .i64 ((rd_T76 l0 x3_1).f0.f1)) (.int .i64 ((rd_T76 l0 x3_1).f0.f2)) (.slice A270_3 ((rd_T76 l0 x3_1).f1.f0).length c270_3) (.int .i64 ((rd_T76 l0 x3_1).f1.f1)) (.int .i64 ((rd_T76 l0 x3_1).f1.f2)) (.slice A270_6 ((rd_T76 l0 x3_1).f2.f0).length c270_6) (.int .i64 ((rd_T76 l0 x3_1).f2.f1)) (.int .i64 ((rd_T76 l0 x3_1).f2.f2))) := hS_
           refine norm_ (a' := ?_) ?_ ?_
           rotate_left
           ·
            simp only [putAll, Act.put, sbA, sbB, sbC]
            rfl
           refine two_ (i := 11) (j := 13) (Ni := some 23) (Nj := some 5) (bm 16 0x1fff) (bm 16 0x37ff) rfl rfl rfl rfl (two_of HT_.out (by kernel_rfl)) (by decide) (by decide) (fun K hK => ?_) (fun K hK => ?_)
           ·
            refine goes_ Try.func15 (by kernel_rfl) rfl #[.agg #[.slice A270_6 ((rd_T76 l0 x3_1).f2.f0).length c270_6, .int .i64 ((rd_T76 l0 x3_1).f2.f1), .int .i64 ((rd_T76 l0 x3_1).f2.f2)]] (by rfl) rfl rfl (by (try simp only [List.map_toArray, List.map_cons, List.map_nil]); rfl) ?_
            with_reducible refine (remontoirlaw03_As.calls (fun k_ => k_ < w.heap.size) _ _ ((rd_T76 l0 x3_1).f2.f0) ((rd_T76 l0 x3_1).f2.f1) ((rd_T76 l0 x3_1).f2.f2) t277 t280 t281 _ ?side1 A5.out).mono ?_
            (case side1 => exact Kd.V_mk HC276_6.out (Kd.F_below (Kd.C_F (Kd.heap_int .i64) HR276_6.out) HB.out))
            rintro e w11 ⟨v278, rfl, ho0, hb⟩
            refine ⟨_, rfl, ?_⟩
            have n1_ := Aside0.mk (Kd.V_lower (Kd.V_mono (ok' := fun k_ => k_ ≠ gb282) ho0 (fun k_ hk_ => Or.elim hk_ (fun hs_ => fun e_ => Nat.not_le.2 hs_ (by rw [e_]; exact GW282.out)) (fun hn_ => (Kd.freshB BK282.out k_ hn_)))) (below_size HB.out))
            have HO279 := n1_; clear n1_; replace HO273 := vb_ HO273 hb; replace BK282 := kb_ BK282 hb; replace HB := hb_ HB hb
            (try clear hb)
            (try clear hb2)
            (try clear hk)
            (try clear hi)
            (try clear ho0)
            refine hK.out _ _ ⟨bc_ HB.out hw270_0, bc_ HB.out hw270_1, bc_ HB.out hw270_2, bc_ HB.out hw270_3, bc_ HB.out hw270_4, bc_ HB.out hw270_5, bc_ HB.out hw270_6, bc_ HB.out hw270_7, bc_ HB.out hw270_8, bc_ HB.out hw276_0, bc_ HB.out hw276_1, bc_ HB.out hw276_2, bc_ HB.out hw276_3, bc_ HB.out hw276_4, bc_ HB.out hw276_5, bc_ HB.out hw276_6, bc_ HB.out hw276_7, bc_ HB.out hw276_8⟩ (fun hHeld => ?_)
            clear hK K
            refine nm_ 23 (h := ?_)
            exact norm_ (by (simp only [putAll, Act.put, sbA, sbB, sbC]; done)) (hJ5_11_12 (v272, v278, gb282) _ ⟨hHeld, HO273.out, HO279.out, BK282.out, GW282.out, GE282.out, HB.out⟩)
           ·
            refine box_step ?hg (N := 5) ?hd (cs := #[.slice none 0 0, .int .i64 0, .int .i64 0]) (t := 30) ?hr ?_; (case hd => rfl); (case hg => rfl); (case hr => (go_simp; done))
            intro gb283 hg w11 hbox hb
            have n0_ := Aside0.mk (Kd.V_below (Kd.V_elderB HO273.out gb283 (Nat.le_of_eq hg.symm)) hb)
            have n3_ := Aside0.mk (hbox)
            have n4_ := Aside0.mk ((by rw [hg]; exact (below_size HB.out) : w.heap.size ≤ gb283))
            have n5_ := Aside0.mk ((by rw [hg]; exact (below_size HB.out) : w.heap.size ≤ gb283))
            have n6_ := Aside0.mk ((by rw [hg]; exact Nat.ne_of_lt (blk_lt BK282.out) : gb282 ≠ gb283))
            have n7_ := Aside0.mk ((by rw [hg]; exact Nat.ne_of_gt (blk_lt BK282.out) : gb283 ≠ gb282))
            clear HO273; have HO273 := n0_; have BK283 := n3_; have GW283 := n4_; have GE283 := n5_; have NB282_283 := n6_; have NB283_282 := n7_; clear n0_ n3_ n4_ n5_ n6_ n7_; replace BK282 := kb_ BK282 hb; replace HB := hb_ HB hb
            clear hb hbox hg
            refine hK.out _ _ ⟨bc_ HB.out hw270_0, bc_ HB.out hw270_1, bc_ HB.out hw270_2, bc_ HB.out hw270_3, bc_ HB.out hw270_4, bc_ HB.out hw270_5, bc_ HB.out hw270_6, bc_ HB.out hw270_7, bc_ HB.out hw270_8, bc_ HB.out hw276_0, bc_ HB.out hw276_1, bc_ HB.out hw276_2, bc_ HB.out hw276_3, bc_ HB.out hw276_4, bc_ HB.out hw276_5, bc_ HB.out hw276_6, bc_ HB.out hw276_7, bc_ HB.out hw276_8⟩ (fun hHeld => ?_)
            clear hK K
            refine nm_ 5 (h := ?_)
            exact norm_ (by (simp only [putAll, Act.put, sbA, sbB, sbC]; done)) (hJ5_12_13 (v272, gb282, gb283) _ ⟨hHeld, HO273.out, BK282.out, BK283.out, GW282.out, GE282.out, NB283_282.out, NB282_283.out, GW283.out, GE283.out, HB.out⟩)
         ·
          rintro ⟨v272, v278⟩ w10 ⟨hS_, h0_, h1_, h2_⟩
          have n0_ : Aside0 (Kd.V (Kd.int .i64) 3 w10 w.heap.size (fun _ => True) v272 t271) := ⟨h0_⟩
          have n1_ : Aside0 (Kd.V (Kd.int .i64) 3 w10 w.heap.size (fun _ => True) v278 t277) := ⟨h1_⟩
          have n2_ : Aside0 (Below w.heap.size w w10) := ⟨h2_⟩
          clear HB
          clear h0_ h1_ h2_
          have HO273 := n0_
          have HO279 := n1_
          have HB := n2_
          clear n0_ n1_ n2_
          have hHeld : hc9_ w10 (ad270.add ((x3_1).toNat * 9)) (.int .i64 ((rd_T76 l0 x3_1).f0.f0)) (.int .i64 ((rd_T76 l0 x3_1).f0.f1)) (.int .i64 ((rd_T76 l0 x3_1).f0.f2)) (.slice A270_3 ((rd_T76 l0 x3_1).f1.f0).length c270_3) (.int .i64 ((rd_T76 l0 x3_1).f1.f1)) (.int .i64 ((rd_T76 l0 x3_1).f1.f2)) (.slice A270_6 ((rd_T76 l0 x3_1).f2.f0).length c270_6) (.int .i64 ((rd_T76 l0 x3_1).f2.f1)) (.int .i64 ((rd_T76 l0 x3_1).f2.f2)) (he9_ w10 (ad270.add ((x3_1).toNat * 9)) (.int .i64 ((rd_T76 l0 x3_1).f0.f0)) (.int .i64 ((rd_T76 l0 x3_1).f0.f1)) (.int .i64 ((rd_T76 l0 x3_1).f0.f2)) (.slice A270_3 ((rd_T76 l0 x3_1).f1.f0).length c270_3) (.int .i64 ((rd_T76 l0 x3_1).f1.f1)) (.int .i64 ((rd_T76 l0 x3_1).f1.f2)) (.slice A270_6 ((rd_T76 l0 x3_1).f2.f0).length c270_6) (.int .i64 ((rd_T76 l0 x3_1).f2.f1)) (.int .i64 ((rd_T76 l0 x3_1).f2.f2))) := hS_
          refine norm_ (a' := ?_) ?_ ?_
          rotate_left
          ·
           simp only [putAll, Act.put, sbA, sbB, sbC]
           rfl
          refine two_ (i := 12) (j := 13) (Ni := some 4) (Nj := some 5) (bm 16 0x1fff) (bm 16 0x2fff) rfl rfl rfl rfl (two_of HT_.out (by kernel_rfl)) (by decide) (by decide) (fun K hK => ?_) (fun K hK => ?_)
          ·
           refine box_step ?hg (N := 4) ?hd (cs := #[.slice none 0 0, .int .i64 0, .int .i64 0]) (t := 30) ?hr ?_; (case hd => rfl); (case hg => rfl); (case hr => (go_simp; done))
           intro gb282 hg w11 hbox hb
           have n0_ := Aside0.mk (Kd.V_below (Kd.V_elderB HO273.out gb282 (Nat.le_of_eq hg.symm)) hb)
           have n1_ := Aside0.mk (Kd.V_below (Kd.V_elderB HO279.out gb282 (Nat.le_of_eq hg.symm)) hb)
           have n3_ := Aside0.mk (hbox)
           have n4_ := Aside0.mk ((by rw [hg]; exact (below_size HB.out) : w.heap.size ≤ gb282))
           have n5_ := Aside0.mk ((by rw [hg]; exact (below_size HB.out) : w.heap.size ≤ gb282))
           clear HO273 HO279; have HO273 := n0_; have HO279 := n1_; have BK282 := n3_; have GW282 := n4_; have GE282 := n5_; clear n0_ n1_ n3_ n4_ n5_; replace HB := hb_ HB hb
           clear hb hbox hg
           refine hK.out _ _ ⟨bc_ HB.out hw270_0, bc_ HB.out hw270_1, bc_ HB.out hw270_2, bc_ HB.out hw270_3, bc_ HB.out hw270_4, bc_ HB.out hw270_5, bc_ HB.out hw270_6, bc_ HB.out hw270_7, bc_ HB.out hw270_8, bc_ HB.out hw276_0, bc_ HB.out hw276_1, bc_ HB.out hw276_2, bc_ HB.out hw276_3, bc_ HB.out hw276_4, bc_ HB.out hw276_5, bc_ HB.out hw276_6, bc_ HB.out hw276_7, bc_ HB.out hw276_8⟩ (fun hHeld => ?_)
           clear hK K
           refine nm_ 4 (h := ?_)
           exact norm_ (by (simp only [putAll, Act.put, sbA, sbB, sbC]; done)) (hJ5_11_12 (v272, v278, gb282) _ ⟨hHeld, (by exact Kd.V_mono HO273.out (fun _ hk => hk.2)), (by exact Kd.V_mono HO279.out (fun _ hk => hk.2)), BK282.out, GW282.out, GE282.out, HB.out⟩)
          ·
           refine box_step ?hg (N := 5) ?hd (cs := #[.slice none 0 0, .int .i64 0, .int .i64 0]) (t := 30) ?hr ?_; (case hd => rfl); (case hg => rfl); (case hr => (go_simp; done))
           intro gb283 hg w11 hbox hb
           have n0_ := Aside0.mk (Kd.V_below (Kd.V_elderB HO273.out gb283 (Nat.le_of_eq hg.symm)) hb)
           have n1_ := Aside0.mk (Kd.V_below (Kd.V_elderB HO279.out gb283 (Nat.le_of_eq hg.symm)) hb)
           have n3_ := Aside0.mk (hbox)
           have n4_ := Aside0.mk ((by rw [hg]; exact (below_size HB.out) : w.heap.size ≤ gb283))
           have n5_ := Aside0.mk ((by rw [hg]; exact (below_size HB.out) : w.heap.size ≤ gb283))
           clear HO273 HO279; have HO273 := n0_; have HO279 := n1_; have BK283 := n3_; have GW283 := n4_; have GE283 := n5_; clear n0_ n1_ n3_ n4_ n5_; replace HB := hb_ HB hb
           clear hb hbox hg
           refine hK.out _ _ ⟨bc_ HB.out hw270_0, bc_ HB.out hw270_1, bc_ HB.out hw270_2, bc_ HB.out hw270_3, bc_ HB.out hw270_4, bc_ HB.out hw270_5, bc_ HB.out hw270_6, bc_ HB.out hw270_7, bc_ HB.out hw270_8, bc_ HB.out hw276_0, bc_ HB.out hw276_1, bc_ HB.out hw276_2, bc_ HB.out hw276_3, bc_ HB.out hw276_4, bc_ HB.out hw276_5, bc_ HB.out hw276_6, bc_ HB.out hw276_7, bc_ HB.out hw276_8⟩ (fun hHeld => ?_)
           clear hK K
           refine nm_ 5 (h := ?_)
           exact norm_ (by (simp only [putAll, Act.put, sbA, sbB, sbC]; done)) (hJ5_11_13 (v272, v278, gb283) _ ⟨hHeld, (by exact Kd.V_mono HO273.out (fun _ hk => hk.2)), (by exact Kd.V_mono HO279.out (fun _ hk => hk.2)), BK283.out, GW283.out, GE283.out, HB.out⟩)
        ·
         rintro ⟨v272, gb282, gb283⟩ w11 ⟨hS_, h0_, h1_, h2_, h3_, h4_, h5_, h6_, h7_, h8_, h9_⟩
         have n0_ : Aside0 (Kd.V (Kd.int .i64) 3 w11 w.heap.size (fun k_ => k_ ≠ gb282 ∧ k_ ≠ gb283) v272 t271) := ⟨h0_⟩
         have n1_ : Aside0 (w11.heap[gb282]? = some (.cells #[.slice none 0 0, .int .i64 0, .int .i64 0] 30 (0, 0))) := ⟨h1_⟩
         have n2_ : Aside0 (w11.heap[gb283]? = some (.cells #[.slice none 0 0, .int .i64 0, .int .i64 0] 30 (0, 0))) := ⟨h2_⟩
         have n3_ : Aside0 (w.heap.size ≤ gb282) := ⟨h3_⟩
         have n4_ : Aside0 (w.heap.size ≤ gb282) := ⟨h4_⟩
         have n5_ : Aside0 (gb283 ≠ gb282) := ⟨h5_⟩
         have n6_ : Aside0 (gb282 ≠ gb283) := ⟨h6_⟩
         have n7_ : Aside0 (w.heap.size ≤ gb283) := ⟨h7_⟩
         have n8_ : Aside0 (w.heap.size ≤ gb283) := ⟨h8_⟩
         have n9_ : Aside0 (Below w.heap.size w w11) := ⟨h9_⟩
         clear HB
         clear h0_ h1_ h2_ h3_ h4_ h5_ h6_ h7_ h8_ h9_
         have HO273 := n0_
         have BK282 := n1_
         have BK283 := n2_
         have GW282 := n3_
         have GE282 := n4_
         have NB283_282 := n5_
         have NB282_283 := n6_
         have GW283 := n7_
         have GE283 := n8_
         have HB := n9_
         clear n0_ n1_ n2_ n3_ n4_ n5_ n6_ n7_ n8_ n9_
         have hHeld : hc9_ w11 (ad270.add ((x3_1).toNat * 9)) (.int .i64 ((rd_T76 l0 x3_1).f0.f0)) (.int .i64 ((rd_T76 l0 x3_1).f0.f1)) (.int .i64 ((rd_T76 l0 x3_1).f0.f2)) (.slice A270_3 ((rd_T76 l0 x3_1).f1.f0).length c270_3) (.int .i64 ((rd_T76 l0 x3_1).f1.f1)) (.int .i64 ((rd_T76 l0 x3_1).f1.f2)) (.slice A270_6 ((rd_T76 l0 x3_1).f2.f0).length c270_6) (.int .i64 ((rd_T76 l0 x3_1).f2.f1)) (.int .i64 ((rd_T76 l0 x3_1).f2.f2)) (he9_ w11 (ad270.add ((x3_1).toNat * 9)) (.int .i64 ((rd_T76 l0 x3_1).f0.f0)) (.int .i64 ((rd_T76 l0 x3_1).f0.f1)) (.int .i64 ((rd_T76 l0 x3_1).f0.f2)) (.slice A270_3 ((rd_T76 l0 x3_1).f1.f0).length c270_3) (.int .i64 ((rd_T76 l0 x3_1).f1.f1)) (.int .i64 ((rd_T76 l0 x3_1).f1.f2)) (.slice A270_6 ((rd_T76 l0 x3_1).f2.f0).length c270_6) (.int .i64 ((rd_T76 l0 x3_1).f2.f1)) (.int .i64 ((rd_T76 l0 x3_1).f2.f2))) := hS_
         refine norm_ (a' := ?_) ?_ ?_
         rotate_left
         ·
          simp only [putAll, Act.put, sbA, sbB, sbC]
          rfl
         refine one_ (i := 11) (N := some 23) (bm 16 0x3fff) rfl rfl (one_of HT_.out (by kernel_rfl)) (by decide) (fun K hK => ?_)
         refine goes_ Try.func15 (by kernel_rfl) rfl #[.agg #[.slice A270_6 ((rd_T76 l0 x3_1).f2.f0).length c270_6, .int .i64 ((rd_T76 l0 x3_1).f2.f1), .int .i64 ((rd_T76 l0 x3_1).f2.f2)]] (by rfl) rfl rfl (by (try simp only [List.map_toArray, List.map_cons, List.map_nil]); rfl) ?_
         with_reducible refine (remontoirlaw03_As.calls (fun k_ => k_ < w.heap.size) _ _ ((rd_T76 l0 x3_1).f2.f0) ((rd_T76 l0 x3_1).f2.f1) ((rd_T76 l0 x3_1).f2.f2) t277 t280 t281 _ ?side1 A5.out).mono ?_
         (case side1 => exact Kd.V_mk HC276_6.out (Kd.F_below (Kd.C_F (Kd.heap_int .i64) HR276_6.out) HB.out))
         rintro e w12 ⟨v278, rfl, ho0, hb⟩
         refine ⟨_, rfl, ?_⟩
         have n1_ := Aside0.mk (Kd.V_lower (Kd.V_mono (ok' := fun k_ => k_ ≠ gb282 ∧ k_ ≠ gb283) ho0 (fun k_ hk_ => ⟨Or.elim hk_ (fun hs_ => fun e_ => Nat.not_le.2 hs_ (by rw [e_]; exact GW282.out)) (fun hn_ => (Kd.freshB BK282.out k_ hn_)), Or.elim hk_ (fun hs_ => fun e_ => Nat.not_le.2 hs_ (by rw [e_]; exact GW283.out)) (fun hn_ => (Kd.freshB BK283.out k_ hn_))⟩)) (below_size HB.out))
         have HO279 := n1_; clear n1_; replace HO273 := vb_ HO273 hb; replace BK282 := kb_ BK282 hb; replace BK283 := kb_ BK283 hb; replace HB := hb_ HB hb
         (try clear hb)
         (try clear hb2)
         (try clear hk)
         (try clear hi)
         (try clear ho0)
         refine hK.out _ _ ⟨bc_ HB.out hw270_0, bc_ HB.out hw270_1, bc_ HB.out hw270_2, bc_ HB.out hw270_3, bc_ HB.out hw270_4, bc_ HB.out hw270_5, bc_ HB.out hw270_6, bc_ HB.out hw270_7, bc_ HB.out hw270_8, bc_ HB.out hw276_0, bc_ HB.out hw276_1, bc_ HB.out hw276_2, bc_ HB.out hw276_3, bc_ HB.out hw276_4, bc_ HB.out hw276_5, bc_ HB.out hw276_6, bc_ HB.out hw276_7, bc_ HB.out hw276_8⟩ (fun hHeld => ?_)
         clear hK K
         refine nm_ 23 (h := ?_)
         exact norm_ (by (simp only [putAll, Act.put, sbA, sbB, sbC]; done)) (hJ5_11_12_13 (v272, v278, gb282, gb283) _ ⟨hHeld, HO273.out, HO279.out, BK282.out, BK283.out, GW282.out, GE282.out, NB283_282.out, NB282_283.out, GW283.out, GE283.out, HB.out⟩)
       ·
        rintro ⟨v272, v278, gb283⟩ w11 ⟨hS_, h0_, h1_, h2_, h3_, h4_, h5_⟩
        have n0_ : Aside0 (Kd.V (Kd.int .i64) 3 w11 w.heap.size (fun k_ => k_ ≠ gb283) v272 t271) := ⟨h0_⟩
        have n1_ : Aside0 (Kd.V (Kd.int .i64) 3 w11 w.heap.size (fun k_ => k_ ≠ gb283) v278 t277) := ⟨h1_⟩
        have n2_ : Aside0 (w11.heap[gb283]? = some (.cells #[.slice none 0 0, .int .i64 0, .int .i64 0] 30 (0, 0))) := ⟨h2_⟩
        have n3_ : Aside0 (w.heap.size ≤ gb283) := ⟨h3_⟩
        have n4_ : Aside0 (w.heap.size ≤ gb283) := ⟨h4_⟩
        have n5_ : Aside0 (Below w.heap.size w w11) := ⟨h5_⟩
        clear HB
        clear h0_ h1_ h2_ h3_ h4_ h5_
        have HO273 := n0_
        have HO279 := n1_
        have BK283 := n2_
        have GW283 := n3_
        have GE283 := n4_
        have HB := n5_
        clear n0_ n1_ n2_ n3_ n4_ n5_
        have hHeld : hc9_ w11 (ad270.add ((x3_1).toNat * 9)) (.int .i64 ((rd_T76 l0 x3_1).f0.f0)) (.int .i64 ((rd_T76 l0 x3_1).f0.f1)) (.int .i64 ((rd_T76 l0 x3_1).f0.f2)) (.slice A270_3 ((rd_T76 l0 x3_1).f1.f0).length c270_3) (.int .i64 ((rd_T76 l0 x3_1).f1.f1)) (.int .i64 ((rd_T76 l0 x3_1).f1.f2)) (.slice A270_6 ((rd_T76 l0 x3_1).f2.f0).length c270_6) (.int .i64 ((rd_T76 l0 x3_1).f2.f1)) (.int .i64 ((rd_T76 l0 x3_1).f2.f2)) (he9_ w11 (ad270.add ((x3_1).toNat * 9)) (.int .i64 ((rd_T76 l0 x3_1).f0.f0)) (.int .i64 ((rd_T76 l0 x3_1).f0.f1)) (.int .i64 ((rd_T76 l0 x3_1).f0.f2)) (.slice A270_3 ((rd_T76 l0 x3_1).f1.f0).length c270_3) (.int .i64 ((rd_T76 l0 x3_1).f1.f1)) (.int .i64 ((rd_T76 l0 x3_1).f1.f2)) (.slice A270_6 ((rd_T76 l0 x3_1).f2.f0).length c270_6) (.int .i64 ((rd_T76 l0 x3_1).f2.f1)) (.int .i64 ((rd_T76 l0 x3_1).f2.f2))) := hS_
        refine norm_ (a' := ?_) ?_ ?_
        rotate_left
        ·
         simp only [putAll, Act.put, sbA, sbB, sbC]
         rfl
        refine one_ (i := 12) (N := some 4) (bm 16 0x3fff) rfl rfl (one_of HT_.out (by kernel_rfl)) (by decide) (fun K hK => ?_)
        refine box_step ?hg (N := 4) ?hd (cs := #[.slice none 0 0, .int .i64 0, .int .i64 0]) (t := 30) ?hr ?_; (case hd => rfl); (case hg => rfl); (case hr => (go_simp; done))
        intro gb282 hg w12 hbox hb
        have n0_ := Aside0.mk (Kd.V_below (Kd.V_elderB HO273.out gb282 (Nat.le_of_eq hg.symm)) hb)
        have n1_ := Aside0.mk (Kd.V_below (Kd.V_elderB HO279.out gb282 (Nat.le_of_eq hg.symm)) hb)
        have n4_ := Aside0.mk (hbox)
        have n5_ := Aside0.mk ((by rw [hg]; exact (below_size HB.out) : w.heap.size ≤ gb282))
        have n6_ := Aside0.mk ((by rw [hg]; exact (below_size HB.out) : w.heap.size ≤ gb282))
        have n7_ := Aside0.mk ((by rw [hg]; exact Nat.ne_of_lt (blk_lt BK283.out) : gb283 ≠ gb282))
        have n8_ := Aside0.mk ((by rw [hg]; exact Nat.ne_of_gt (blk_lt BK283.out) : gb282 ≠ gb283))
        clear HO273 HO279; have HO273 := n0_; have HO279 := n1_; have BK282 := n4_; have GW282 := n5_; have GE282 := n6_; have NB283_282 := n7_; have NB282_283 := n8_; clear n0_ n1_ n4_ n5_ n6_ n7_ n8_; replace BK283 := kb_ BK283 hb; replace HB := hb_ HB hb
        clear hb hbox hg
        refine hK.out _ _ ⟨bc_ HB.out hw270_0, bc_ HB.out hw270_1, bc_ HB.out hw270_2, bc_ HB.out hw270_3, bc_ HB.out hw270_4, bc_ HB.out hw270_5, bc_ HB.out hw270_6, bc_ HB.out hw270_7, bc_ HB.out hw270_8, bc_ HB.out hw276_0, bc_ HB.out hw276_1, bc_ HB.out hw276_2, bc_ HB.out hw276_3, bc_ HB.out hw276_4, bc_ HB.out hw276_5, bc_ HB.out hw276_6, bc_ HB.out hw276_7, bc_ HB.out hw276_8⟩ (fun hHeld => ?_)
        clear hK K
        refine nm_ 4 (h := ?_)
        exact norm_ (by (simp only [putAll, Act.put, sbA, sbB, sbC]; done)) (hJ5_11_12_13 (v272, v278, gb282, gb283) _ ⟨hHeld, (by exact Kd.V_mono HO273.out (fun _ hk => ⟨hk.2, hk.1⟩)), (by exact Kd.V_mono HO279.out (fun _ hk => ⟨hk.2, hk.1⟩)), BK282.out, BK283.out, GW282.out, GE282.out, NB283_282.out, NB282_283.out, GW283.out, GE283.out, HB.out⟩)
      ·
       rintro ⟨v272, v278, gb282⟩ w11 ⟨hS_, h0_, h1_, h2_, h3_, h4_, h5_⟩
       have n0_ : Aside0 (Kd.V (Kd.int .i64) 3 w11 w.heap.size (fun k_ => k_ ≠ gb282) v272 t271) := ⟨h0_⟩
       have n1_ : Aside0 (Kd.V (Kd.int .i64) 3 w11 w.heap.size (fun k_ => k_ ≠ gb282) v278 t277) := ⟨h1_⟩
       have n2_ : Aside0 (w11.heap[gb282]? = some (.cells #[.slice none 0 0, .int .i64 0, .int .i64 0] 30 (0, 0))) := ⟨h2_⟩
       have n3_ : Aside0 (w.heap.size ≤ gb282) := ⟨h3_⟩
       have n4_ : Aside0 (w.heap.size ≤ gb282) := ⟨h4_⟩
       have n5_ : Aside0 (Below w.heap.size w w11) := ⟨h5_⟩
       clear HB
       clear h0_ h1_ h2_ h3_ h4_ h5_
       have HO273 := n0_
       have HO279 := n1_
       have BK282 := n2_
       have GW282 := n3_
       have GE282 := n4_
       have HB := n5_
       clear n0_ n1_ n2_ n3_ n4_ n5_
       have hHeld : hc9_ w11 (ad270.add ((x3_1).toNat * 9)) (.int .i64 ((rd_T76 l0 x3_1).f0.f0)) (.int .i64 ((rd_T76 l0 x3_1).f0.f1)) (.int .i64 ((rd_T76 l0 x3_1).f0.f2)) (.slice A270_3 ((rd_T76 l0 x3_1).f1.f0).length c270_3) (.int .i64 ((rd_T76 l0 x3_1).f1.f1)) (.int .i64 ((rd_T76 l0 x3_1).f1.f2)) (.slice A270_6 ((rd_T76 l0 x3_1).f2.f0).length c270_6) (.int .i64 ((rd_T76 l0 x3_1).f2.f1)) (.int .i64 ((rd_T76 l0 x3_1).f2.f2)) (he9_ w11 (ad270.add ((x3_1).toNat * 9)) (.int .i64 ((rd_T76 l0 x3_1).f0.f0)) (.int .i64 ((rd_T76 l0 x3_1).f0.f1)) (.int .i64 ((rd_T76 l0 x3_1).f0.f2)) (.slice A270_3 ((rd_T76 l0 x3_1).f1.f0).length c270_3) (.int .i64 ((rd_T76 l0 x3_1).f1.f1)) (.int .i64 ((rd_T76 l0 x3_1).f1.f2)) (.slice A270_6 ((rd_T76 l0 x3_1).f2.f0).length c270_6) (.int .i64 ((rd_T76 l0 x3_1).f2.f1)) (.int .i64 ((rd_T76 l0 x3_1).f2.f2))) := hS_
       refine norm_ (a' := ?_) ?_ ?_
       rotate_left
       ·
        simp only [putAll, Act.put, sbA, sbB, sbC]
        rfl
       refine one_ (i := 13) (N := some 5) (bm 16 0x3fff) rfl rfl (one_of HT_.out (by kernel_rfl)) (by decide) (fun K hK => ?_)
       refine box_step ?hg (N := 5) ?hd (cs := #[.slice none 0 0, .int .i64 0, .int .i64 0]) (t := 30) ?hr ?_; (case hd => rfl); (case hg => rfl); (case hr => (go_simp; done))
       intro gb283 hg w12 hbox hb
       have n0_ := Aside0.mk (Kd.V_below (Kd.V_elderB HO273.out gb283 (Nat.le_of_eq hg.symm)) hb)
       have n1_ := Aside0.mk (Kd.V_below (Kd.V_elderB HO279.out gb283 (Nat.le_of_eq hg.symm)) hb)
       have n4_ := Aside0.mk (hbox)
       have n5_ := Aside0.mk ((by rw [hg]; exact (below_size HB.out) : w.heap.size ≤ gb283))
       have n6_ := Aside0.mk ((by rw [hg]; exact (below_size HB.out) : w.heap.size ≤ gb283))
       have n7_ := Aside0.mk ((by rw [hg]; exact Nat.ne_of_lt (blk_lt BK282.out) : gb282 ≠ gb283))
       have n8_ := Aside0.mk ((by rw [hg]; exact Nat.ne_of_gt (blk_lt BK282.out) : gb283 ≠ gb282))
       clear HO273 HO279; have HO273 := n0_; have HO279 := n1_; have BK283 := n4_; have GW283 := n5_; have GE283 := n6_; have NB282_283 := n7_; have NB283_282 := n8_; clear n0_ n1_ n4_ n5_ n6_ n7_ n8_; replace BK282 := kb_ BK282 hb; replace HB := hb_ HB hb
       clear hb hbox hg
       refine hK.out _ _ ⟨bc_ HB.out hw270_0, bc_ HB.out hw270_1, bc_ HB.out hw270_2, bc_ HB.out hw270_3, bc_ HB.out hw270_4, bc_ HB.out hw270_5, bc_ HB.out hw270_6, bc_ HB.out hw270_7, bc_ HB.out hw270_8, bc_ HB.out hw276_0, bc_ HB.out hw276_1, bc_ HB.out hw276_2, bc_ HB.out hw276_3, bc_ HB.out hw276_4, bc_ HB.out hw276_5, bc_ HB.out hw276_6, bc_ HB.out hw276_7, bc_ HB.out hw276_8⟩ (fun hHeld => ?_)
       clear hK K
       refine nm_ 5 (h := ?_)
       exact norm_ (by (simp only [putAll, Act.put, sbA, sbB, sbC]; done)) (hJ5_11_12_13 (v272, v278, gb282, gb283) _ ⟨hHeld, HO273.out, HO279.out, BK282.out, BK283.out, GW282.out, GE282.out, NB283_282.out, NB282_283.out, GW283.out, GE283.out, HB.out⟩)
     rintro ⟨v272, v278, gb282, gb283⟩ w12 ⟨hS_, h0_, h1_, h2_, h3_, h4_, h5_, h6_, h7_, h8_, h9_, h10_⟩
     have n0_ : Aside0 (Kd.V (Kd.int .i64) 3 w12 w.heap.size (fun k_ => k_ ≠ gb282 ∧ k_ ≠ gb283) v272 t271) := ⟨h0_⟩
     have n1_ : Aside0 (Kd.V (Kd.int .i64) 3 w12 w.heap.size (fun k_ => k_ ≠ gb282 ∧ k_ ≠ gb283) v278 t277) := ⟨h1_⟩
     have n2_ : Aside0 (w12.heap[gb282]? = some (.cells #[.slice none 0 0, .int .i64 0, .int .i64 0] 30 (0, 0))) := ⟨h2_⟩
     have n3_ : Aside0 (w12.heap[gb283]? = some (.cells #[.slice none 0 0, .int .i64 0, .int .i64 0] 30 (0, 0))) := ⟨h3_⟩
     have n4_ : Aside0 (w.heap.size ≤ gb282) := ⟨h4_⟩
     have n5_ : Aside0 (w.heap.size ≤ gb282) := ⟨h5_⟩
     have n6_ : Aside0 (gb283 ≠ gb282) := ⟨h6_⟩
     have n7_ : Aside0 (gb282 ≠ gb283) := ⟨h7_⟩
     have n8_ : Aside0 (w.heap.size ≤ gb283) := ⟨h8_⟩
     have n9_ : Aside0 (w.heap.size ≤ gb283) := ⟨h9_⟩
     have n10_ : Aside0 (Below w.heap.size w w12) := ⟨h10_⟩
     clear HB
     clear h0_ h1_ h2_ h3_ h4_ h5_ h6_ h7_ h8_ h9_ h10_
     have HO273 := n0_
     have HO279 := n1_
     have BK282 := n2_
     have BK283 := n3_
     have GW282 := n4_
     have GE282 := n5_
     have NB283_282 := n6_
     have NB282_283 := n7_
     have GW283 := n8_
     have GE283 := n9_
     have HB := n10_
     clear n0_ n1_ n2_ n3_ n4_ n5_ n6_ n7_ n8_ n9_ n10_
     have hHeld : hc9_ w12 (ad270.add ((x3_1).toNat * 9)) (.int .i64 ((rd_T76 l0 x3_1).f0.f0)) (.int .i64 ((rd_T76 l0 x3_1).f0.f1)) (.int .i64 ((rd_T76 l0 x3_1).f0.f2)) (.slice A270_3 ((rd_T76 l0 x3_1).f1.f0).length c270_3) (.int .i64 ((rd_T76 l0 x3_1).f1.f1)) (.int .i64 ((rd_T76 l0 x3_1).f1.f2)) (.slice A270_6 ((rd_T76 l0 x3_1).f2.f0).length c270_6) (.int .i64 ((rd_T76 l0 x3_1).f2.f1)) (.int .i64 ((rd_T76 l0 x3_1).f2.f2)) (he9_ w12 (ad270.add ((x3_1).toNat * 9)) (.int .i64 ((rd_T76 l0 x3_1).f0.f0)) (.int .i64 ((rd_T76 l0 x3_1).f0.f1)) (.int .i64 ((rd_T76 l0 x3_1).f0.f2)) (.slice A270_3 ((rd_T76 l0 x3_1).f1.f0).length c270_3) (.int .i64 ((rd_T76 l0 x3_1).f1.f1)) (.int .i64 ((rd_T76 l0 x3_1).f1.f2)) (.slice A270_6 ((rd_T76 l0 x3_1).f2.f0).length c270_6) (.int .i64 ((rd_T76 l0 x3_1).f2.f1)) (.int .i64 ((rd_T76 l0 x3_1).f2.f2))) := hS_
     obtain ⟨Ao13, co13, eo13⟩ := Kd.V_slice HO273.out
     ((subst eo13))
     obtain ⟨Ao17, co17, eo17⟩ := Kd.V_slice HO279.out
     ((subst eo17))
     refine norm_ (a' := ?_) ?_ ?_
     rotate_left
     ·
      simp only [putAll, Act.put, sbA, sbB, sbC]
      rfl
     refine one_ (i := 14) (N := none) (bm 16 0x7fff) rfl rfl (one_of HT_.out (by kernel_rfl)) (by decide) (fun K hK => ?_)
     have hs14 : w12.cell? ⟨gb282, 0, none⟩ = some (.slice none 0 0) := (blk_cell BK282.out 0).trans rfl
     have hfs14 := blk_frozen BK282.out 0
     have hns14_1 := NB283_282.out
     have hms14_1 := NB282_283.out
     have hs15 : w12.cell? ⟨gb282, 1, none⟩ = some (.int .i64 0) := (blk_cell BK282.out 1).trans rfl
     have hfs15 := blk_frozen BK282.out 1
     have hns15_1 := NB283_282.out
     have hms15_1 := NB282_283.out
     have hs16 : w12.cell? ⟨gb282, 2, none⟩ = some (.int .i64 0) := (blk_cell BK282.out 2).trans rfl
     have hfs16 := blk_frozen BK282.out 2
     have hns16_1 := NB283_282.out
     have hms16_1 := NB282_283.out
     refine skip_ (w1 := ?_) (by rfl) rfl ?_ ?_
     rotate_left
     ·
      go_simp
      rfl
     refine hK.out _ _ ⟨(cf_ (p := ⟨gb282, _, none⟩) hw270_0 GW282.out (cf_ (p := ⟨gb282, _, none⟩) hw270_0 GW282.out (cf_ (p := ⟨gb282, _, none⟩) hw270_0 GW282.out hHeld.1))), (cf_ (p := ⟨gb282, _, none⟩) hw270_1 GW282.out (cf_ (p := ⟨gb282, _, none⟩) hw270_1 GW282.out (cf_ (p := ⟨gb282, _, none⟩) hw270_1 GW282.out hHeld.2.1))), (cf_ (p := ⟨gb282, _, none⟩) hw270_2 GW282.out (cf_ (p := ⟨gb282, _, none⟩) hw270_2 GW282.out (cf_ (p := ⟨gb282, _, none⟩) hw270_2 GW282.out hHeld.2.2.1))), (cf_ (p := ⟨gb282, _, none⟩) hw270_3 GW282.out (cf_ (p := ⟨gb282, _, none⟩) hw270_3 GW282.out (cf_ (p := ⟨gb282, _, none⟩) hw270_3 GW282.out hHeld.2.2.2.1))), (cf_ (p := ⟨gb282, _, none⟩) hw270_4 GW282.out (cf_ (p := ⟨gb282, _, none⟩) hw270_4 GW282.out (cf_ (p := ⟨gb282, _, none⟩) hw270_4 GW282.out hHeld.2.2.2.2.1))), (cf_ (p := ⟨gb282, _, none⟩) hw270_5 GW282.out (cf_ (p := ⟨gb282, _, none⟩) hw270_5 GW282.out (cf_ (p := ⟨gb282, _, none⟩) hw270_5 GW282.out hHeld.2.2.2.2.2.1))), (cf_ (p := ⟨gb282, _, none⟩) hw270_6 GW282.out (cf_ (p := ⟨gb282, _, none⟩) hw270_6 GW282.out (cf_ (p := ⟨gb282, _, none⟩) hw270_6 GW282.out hHeld.2.2.2.2.2.2.1))), (cf_ (p := ⟨gb282, _, none⟩) hw270_7 GW282.out (cf_ (p := ⟨gb282, _, none⟩) hw270_7 GW282.out (cf_ (p := ⟨gb282, _, none⟩) hw270_7 GW282.out hHeld.2.2.2.2.2.2.2.1))), (cf_ (p := ⟨gb282, _, none⟩) hw270_8 GW282.out (cf_ (p := ⟨gb282, _, none⟩) hw270_8 GW282.out (cf_ (p := ⟨gb282, _, none⟩) hw270_8 GW282.out hHeld.2.2.2.2.2.2.2.2.1))), (cf_ (p := ⟨gb282, _, none⟩) hw276_0 GW282.out (cf_ (p := ⟨gb282, _, none⟩) hw276_0 GW282.out (cf_ (p := ⟨gb282, _, none⟩) hw276_0 GW282.out hHeld.2.2.2.2.2.2.2.2.2.1))), (cf_ (p := ⟨gb282, _, none⟩) hw276_1 GW282.out (cf_ (p := ⟨gb282, _, none⟩) hw276_1 GW282.out (cf_ (p := ⟨gb282, _, none⟩) hw276_1 GW282.out hHeld.2.2.2.2.2.2.2.2.2.2.1))), (cf_ (p := ⟨gb282, _, none⟩) hw276_2 GW282.out (cf_ (p := ⟨gb282, _, none⟩) hw276_2 GW282.out (cf_ (p := ⟨gb282, _, none⟩) hw276_2 GW282.out hHeld.2.2.2.2.2.2.2.2.2.2.2.1))), (cf_ (p := ⟨gb282, _, none⟩) hw276_3 GW282.out (cf_ (p := ⟨gb282, _, none⟩) hw276_3 GW282.out (cf_ (p := ⟨gb282, _, none⟩) hw276_3 GW282.out hHeld.2.2.2.2.2.2.2.2.2.2.2.2.1))), (cf_ (p := ⟨gb282, _, none⟩) hw276_4 GW282.out (cf_ (p := ⟨gb282, _, none⟩) hw276_4 GW282.out (cf_ (p := ⟨gb282, _, none⟩) hw276_4 GW282.out hHeld.2.2.2.2.2.2.2.2.2.2.2.2.2.1))), (cf_ (p := ⟨gb282, _, none⟩) hw276_5 GW282.out (cf_ (p := ⟨gb282, _, none⟩) hw276_5 GW282.out (cf_ (p := ⟨gb282, _, none⟩) hw276_5 GW282.out hHeld.2.2.2.2.2.2.2.2.2.2.2.2.2.2.1))), (cf_ (p := ⟨gb282, _, none⟩) hw276_6 GW282.out (cf_ (p := ⟨gb282, _, none⟩) hw276_6 GW282.out (cf_ (p := ⟨gb282, _, none⟩) hw276_6 GW282.out hHeld.2.2.2.2.2.2.2.2.2.2.2.2.2.2.2.1))), (cf_ (p := ⟨gb282, _, none⟩) hw276_7 GW282.out (cf_ (p := ⟨gb282, _, none⟩) hw276_7 GW282.out (cf_ (p := ⟨gb282, _, none⟩) hw276_7 GW282.out hHeld.2.2.2.2.2.2.2.2.2.2.2.2.2.2.2.2.1))), (cf_ (p := ⟨gb282, _, none⟩) hw276_8 GW282.out (cf_ (p := ⟨gb282, _, none⟩) hw276_8 GW282.out (cf_ (p := ⟨gb282, _, none⟩) hw276_8 GW282.out hHeld.2.2.2.2.2.2.2.2.2.2.2.2.2.2.2.2.2)))⟩ (fun hHeld => ?_)
     clear hK K
     refine one_ (i := 15) (N := none) (bm 16 0xffff) rfl rfl (one_of HT_.out (by kernel_rfl)) (by decide) (fun K hK => ?_)
     have hs18 : w12.cell? ⟨gb283, 0, none⟩ = some (.slice none 0 0) := (blk_cell BK283.out 0).trans rfl
     have hfs18 := blk_frozen BK283.out 0
     have hns18_0 := NB282_283.out
     have hms18_0 := NB283_282.out
     have hs19 : w12.cell? ⟨gb283, 1, none⟩ = some (.int .i64 0) := (blk_cell BK283.out 1).trans rfl
     have hfs19 := blk_frozen BK283.out 1
     have hns19_0 := NB282_283.out
     have hms19_0 := NB283_282.out
     have hs20 : w12.cell? ⟨gb283, 2, none⟩ = some (.int .i64 0) := (blk_cell BK283.out 2).trans rfl
     have hfs20 := blk_frozen BK283.out 2
     have hns20_0 := NB282_283.out
     have hms20_0 := NB283_282.out
     refine skip_ (w1 := ?_) (by rfl) rfl ?_ ?_
     rotate_left
     ·
      go_simp
      rfl
     refine hK.out _ _ ⟨(cf_ (p := ⟨gb283, _, none⟩) hw270_0 GW283.out (cf_ (p := ⟨gb283, _, none⟩) hw270_0 GW283.out (cf_ (p := ⟨gb283, _, none⟩) hw270_0 GW283.out hHeld.1))), (cf_ (p := ⟨gb283, _, none⟩) hw270_1 GW283.out (cf_ (p := ⟨gb283, _, none⟩) hw270_1 GW283.out (cf_ (p := ⟨gb283, _, none⟩) hw270_1 GW283.out hHeld.2.1))), (cf_ (p := ⟨gb283, _, none⟩) hw270_2 GW283.out (cf_ (p := ⟨gb283, _, none⟩) hw270_2 GW283.out (cf_ (p := ⟨gb283, _, none⟩) hw270_2 GW283.out hHeld.2.2.1))), (cf_ (p := ⟨gb283, _, none⟩) hw270_3 GW283.out (cf_ (p := ⟨gb283, _, none⟩) hw270_3 GW283.out (cf_ (p := ⟨gb283, _, none⟩) hw270_3 GW283.out hHeld.2.2.2.1))), (cf_ (p := ⟨gb283, _, none⟩) hw270_4 GW283.out (cf_ (p := ⟨gb283, _, none⟩) hw270_4 GW283.out (cf_ (p := ⟨gb283, _, none⟩) hw270_4 GW283.out hHeld.2.2.2.2.1))), (cf_ (p := ⟨gb283, _, none⟩) hw270_5 GW283.out (cf_ (p := ⟨gb283, _, none⟩) hw270_5 GW283.out (cf_ (p := ⟨gb283, _, none⟩) hw270_5 GW283.out hHeld.2.2.2.2.2.1))), (cf_ (p := ⟨gb283, _, none⟩) hw270_6 GW283.out (cf_ (p := ⟨gb283, _, none⟩) hw270_6 GW283.out (cf_ (p := ⟨gb283, _, none⟩) hw270_6 GW283.out hHeld.2.2.2.2.2.2.1))), (cf_ (p := ⟨gb283, _, none⟩) hw270_7 GW283.out (cf_ (p := ⟨gb283, _, none⟩) hw270_7 GW283.out (cf_ (p := ⟨gb283, _, none⟩) hw270_7 GW283.out hHeld.2.2.2.2.2.2.2.1))), (cf_ (p := ⟨gb283, _, none⟩) hw270_8 GW283.out (cf_ (p := ⟨gb283, _, none⟩) hw270_8 GW283.out (cf_ (p := ⟨gb283, _, none⟩) hw270_8 GW283.out hHeld.2.2.2.2.2.2.2.2.1))), (cf_ (p := ⟨gb283, _, none⟩) hw276_0 GW283.out (cf_ (p := ⟨gb283, _, none⟩) hw276_0 GW283.out (cf_ (p := ⟨gb283, _, none⟩) hw276_0 GW283.out hHeld.2.2.2.2.2.2.2.2.2.1))), (cf_ (p := ⟨gb283, _, none⟩) hw276_1 GW283.out (cf_ (p := ⟨gb283, _, none⟩) hw276_1 GW283.out (cf_ (p := ⟨gb283, _, none⟩) hw276_1 GW283.out hHeld.2.2.2.2.2.2.2.2.2.2.1))), (cf_ (p := ⟨gb283, _, none⟩) hw276_2 GW283.out (cf_ (p := ⟨gb283, _, none⟩) hw276_2 GW283.out (cf_ (p := ⟨gb283, _, none⟩) hw276_2 GW283.out hHeld.2.2.2.2.2.2.2.2.2.2.2.1))), (cf_ (p := ⟨gb283, _, none⟩) hw276_3 GW283.out (cf_ (p := ⟨gb283, _, none⟩) hw276_3 GW283.out (cf_ (p := ⟨gb283, _, none⟩) hw276_3 GW283.out hHeld.2.2.2.2.2.2.2.2.2.2.2.2.1))), (cf_ (p := ⟨gb283, _, none⟩) hw276_4 GW283.out (cf_ (p := ⟨gb283, _, none⟩) hw276_4 GW283.out (cf_ (p := ⟨gb283, _, none⟩) hw276_4 GW283.out hHeld.2.2.2.2.2.2.2.2.2.2.2.2.2.1))), (cf_ (p := ⟨gb283, _, none⟩) hw276_5 GW283.out (cf_ (p := ⟨gb283, _, none⟩) hw276_5 GW283.out (cf_ (p := ⟨gb283, _, none⟩) hw276_5 GW283.out hHeld.2.2.2.2.2.2.2.2.2.2.2.2.2.2.1))), (cf_ (p := ⟨gb283, _, none⟩) hw276_6 GW283.out (cf_ (p := ⟨gb283, _, none⟩) hw276_6 GW283.out (cf_ (p := ⟨gb283, _, none⟩) hw276_6 GW283.out hHeld.2.2.2.2.2.2.2.2.2.2.2.2.2.2.2.1))), (cf_ (p := ⟨gb283, _, none⟩) hw276_7 GW283.out (cf_ (p := ⟨gb283, _, none⟩) hw276_7 GW283.out (cf_ (p := ⟨gb283, _, none⟩) hw276_7 GW283.out hHeld.2.2.2.2.2.2.2.2.2.2.2.2.2.2.2.2.1))), (cf_ (p := ⟨gb283, _, none⟩) hw276_8 GW283.out (cf_ (p := ⟨gb283, _, none⟩) hw276_8 GW283.out (cf_ (p := ⟨gb283, _, none⟩) hw276_8 GW283.out hHeld.2.2.2.2.2.2.2.2.2.2.2.2.2.2.2.2.2)))⟩ (fun hHeld => ?_)
     clear hK K
     refine done_ (done_of HT_.out (by kernel_rfl)) ?_
     go_upto_region 5 with (fail)
     go_cut [64] (fun v64 wc => ∃ (kq : Nat) (x64_5 : Bool), v64 = .bool x64_5 ∧ Aside0 (remontoirlaw18_right.j1 kq l0 x3_1 x64_5 = some r) ∧ Aside0 (kq ≤ k1) ∧ Aside0 (Kd.V (Kd.int .i64) 3 wc w.heap.size (fun k_ => k_ ≠ gb282 ∧ k_ ≠ gb283) (.slice Ao13 t271.length co13) t271) ∧ Aside0 (Kd.V (Kd.int .i64) 3 wc w.heap.size (fun k_ => k_ ≠ gb282 ∧ k_ ≠ gb283) (.slice Ao17 t277.length co17) t277) ∧ Aside0 (wc.heap[gb282]? = some (.cells #[(.slice Ao13 t271.length co13), .int .i64 t274, .int .i64 t275] 30 (0, 0))) ∧ Aside0 (wc.heap[gb283]? = some (.cells #[(.slice Ao17 t277.length co17), .int .i64 t280, .int .i64 t281] 30 (0, 0))) ∧ Aside0 (Below w.heap.size w wc))
     case first =>
      have H := HC6.out
      clear HC6
      replace H := Option.bind_eq_some_iff.mp H
      obtain ⟨t285, A210, H⟩ := H
      replace H : (if t285 = true then ((remontoirref03_Right.f t271 t274 t275).bind fun t286 => (if t286 = true then ((remontoirref03_Right.f t277 t280 t281).bind fun t287 => (if t287 = true then (if (t271.length : Int) = ((rd_T76 l0 x3_1).f0.f2) then (remontoirlaw18_right.j1 k1 l0 x3_1 ((t277.length : Int) != ((rd_T76 l0 x3_1).f0.f2))) else (remontoirlaw18_right.j1 k1 l0 x3_1 true)) else (remontoirlaw18_right.j1 k1 l0 x3_1 true))) else (remontoirlaw18_right.j1 k1 l0 x3_1 true))) else (remontoirlaw18_right.j1 k1 l0 x3_1 true)) = some r := H
      have A21 := Aside0.mk A210
      clear A210
      by_cases c22 : t285 = true
      ·
       subst c22
       have H1 : ((remontoirref03_Right.f t271 t274 t275).bind fun t286 => (if t286 = true then ((remontoirref03_Right.f t277 t280 t281).bind fun t287 => (if t287 = true then (if (t271.length : Int) = ((rd_T76 l0 x3_1).f0.f2) then (remontoirlaw18_right.j1 k1 l0 x3_1 ((t277.length : Int) != ((rd_T76 l0 x3_1).f0.f2))) else (remontoirlaw18_right.j1 k1 l0 x3_1 true)) else (remontoirlaw18_right.j1 k1 l0 x3_1 true))) else (remontoirlaw18_right.j1 k1 l0 x3_1 true))) = some r := by rw [if_pos rfl] at H; exact H
       clear H
       have H := H1
       clear H1
       replace H := Option.bind_eq_some_iff.mp H
       obtain ⟨t286, A230, H⟩ := H
       replace H : (if t286 = true then ((remontoirref03_Right.f t277 t280 t281).bind fun t287 => (if t287 = true then (if (t271.length : Int) = ((rd_T76 l0 x3_1).f0.f2) then (remontoirlaw18_right.j1 k1 l0 x3_1 ((t277.length : Int) != ((rd_T76 l0 x3_1).f0.f2))) else (remontoirlaw18_right.j1 k1 l0 x3_1 true)) else (remontoirlaw18_right.j1 k1 l0 x3_1 true))) else (remontoirlaw18_right.j1 k1 l0 x3_1 true)) = some r := H
       have A23 := Aside0.mk A230
       clear A230
       by_cases c24 : t286 = true
       ·
        subst c24
        have H1 : ((remontoirref03_Right.f t277 t280 t281).bind fun t287 => (if t287 = true then (if (t271.length : Int) = ((rd_T76 l0 x3_1).f0.f2) then (remontoirlaw18_right.j1 k1 l0 x3_1 ((t277.length : Int) != ((rd_T76 l0 x3_1).f0.f2))) else (remontoirlaw18_right.j1 k1 l0 x3_1 true)) else (remontoirlaw18_right.j1 k1 l0 x3_1 true))) = some r := by rw [if_pos rfl] at H; exact H
        clear H
        have H := H1
        clear H1
        replace H := Option.bind_eq_some_iff.mp H
        obtain ⟨t287, A250, H⟩ := H
        replace H : (if t287 = true then (if (t271.length : Int) = ((rd_T76 l0 x3_1).f0.f2) then (remontoirlaw18_right.j1 k1 l0 x3_1 ((t277.length : Int) != ((rd_T76 l0 x3_1).f0.f2))) else (remontoirlaw18_right.j1 k1 l0 x3_1 true)) else (remontoirlaw18_right.j1 k1 l0 x3_1 true)) = some r := H
        have A25 := Aside0.mk A250
        clear A250
        by_cases c26 : t287 = true
        ·
         subst c26
         have H1 : (if (t271.length : Int) = ((rd_T76 l0 x3_1).f0.f2) then (remontoirlaw18_right.j1 k1 l0 x3_1 ((t277.length : Int) != ((rd_T76 l0 x3_1).f0.f2))) else (remontoirlaw18_right.j1 k1 l0 x3_1 true)) = some r := by rw [if_pos rfl] at H; exact H
         clear H
         have H := H1
         clear H1
         by_cases c27 : (t271.length : Int) = ((rd_T76 l0 x3_1).f0.f2)
         ·
          rw [if_pos c27] at H
          have c27b0 : ((t271.length : Int) == ((rd_T76 l0 x3_1).f0.f2)) = true := beq_iff_eq.mpr c27
          have c27b1 : ((t271.length : Int) != ((rd_T76 l0 x3_1).f0.f2)) = false := bne_eq_false_iff_eq.mpr c27
          clear c27
          (skip)
          have H' := Aside0.mk H
          clear H
          try go_wp2
          have n0_ : Aside0 (Kd.V (Kd.int .i64) 3 ((((((w12.setCell ⟨gb282, 0, none⟩ (.slice Ao13 t271.length co13)).setCell ⟨gb282, 1, none⟩ (.int .i64 t274)).setCell ⟨gb282, 2, none⟩ (.int .i64 t275)).setCell ⟨gb283, 0, none⟩ (.slice Ao17 t277.length co17)).setCell ⟨gb283, 1, none⟩ (.int .i64 t280)).setCell ⟨gb283, 2, none⟩ (.int .i64 t281)) w.heap.size (fun k_ => k_ ≠ gb282 ∧ k_ ≠ gb283) (.slice Ao13 t271.length co13) t271) := ⟨by exact Kd.V_mono (vf3_ (vf3_ (Kd.V_mono (Kd.V_mono HO273.out (fun k_ hk => (⟨hk, hk.1⟩ : _ ∧ k_ ≠ gb282))) (fun k_ hk => (⟨hk, hk.1.2⟩ : _ ∧ k_ ≠ gb283))) (fun _ hk => hk.1.2)) (fun _ hk => hk.2)) (fun _ hk => ⟨hk.1.1.1, hk.1.1.2⟩)⟩
          have n1_ : Aside0 (Kd.V (Kd.int .i64) 3 ((((((w12.setCell ⟨gb282, 0, none⟩ (.slice Ao13 t271.length co13)).setCell ⟨gb282, 1, none⟩ (.int .i64 t274)).setCell ⟨gb282, 2, none⟩ (.int .i64 t275)).setCell ⟨gb283, 0, none⟩ (.slice Ao17 t277.length co17)).setCell ⟨gb283, 1, none⟩ (.int .i64 t280)).setCell ⟨gb283, 2, none⟩ (.int .i64 t281)) w.heap.size (fun k_ => k_ ≠ gb282 ∧ k_ ≠ gb283) (.slice Ao17 t277.length co17) t277) := ⟨by exact Kd.V_mono (vf3_ (vf3_ (Kd.V_mono (Kd.V_mono HO279.out (fun k_ hk => (⟨hk, hk.1⟩ : _ ∧ k_ ≠ gb282))) (fun k_ hk => (⟨hk, hk.1.2⟩ : _ ∧ k_ ≠ gb283))) (fun _ hk => hk.1.2)) (fun _ hk => hk.2)) (fun _ hk => ⟨hk.1.1.1, hk.1.1.2⟩)⟩
          have n2_ : Aside0 (((((((w12.setCell ⟨gb282, 0, none⟩ (.slice Ao13 t271.length co13)).setCell ⟨gb282, 1, none⟩ (.int .i64 t274)).setCell ⟨gb282, 2, none⟩ (.int .i64 t275)).setCell ⟨gb283, 0, none⟩ (.slice Ao17 t277.length co17)).setCell ⟨gb283, 1, none⟩ (.int .i64 t280)).setCell ⟨gb283, 2, none⟩ (.int .i64 t281)).heap[gb282]? = some (.cells #[.slice Ao13 t271.length co13, .int .i64 t274, .int .i64 t275] 30 (0, 0))) := ⟨by refine blk_far ?_ NB282_283.out _; refine blk_far ?_ NB282_283.out _; refine blk_far ?_ NB282_283.out _; exact bp3_ BK282.out⟩
          have n3_ : Aside0 (((((((w12.setCell ⟨gb282, 0, none⟩ (.slice Ao13 t271.length co13)).setCell ⟨gb282, 1, none⟩ (.int .i64 t274)).setCell ⟨gb282, 2, none⟩ (.int .i64 t275)).setCell ⟨gb283, 0, none⟩ (.slice Ao17 t277.length co17)).setCell ⟨gb283, 1, none⟩ (.int .i64 t280)).setCell ⟨gb283, 2, none⟩ (.int .i64 t281)).heap[gb283]? = some (.cells #[.slice Ao17 t277.length co17, .int .i64 t280, .int .i64 t281] 30 (0, 0))) := ⟨by refine blk_put (cs := #[.slice Ao17 t277.length co17, .int .i64 t280, .int .i64 0]) ?_ 2 _ rfl; refine blk_put (cs := #[.slice Ao17 t277.length co17, .int .i64 0, .int .i64 0]) ?_ 1 _ rfl; refine blk_put (cs := #[.slice none 0 0, .int .i64 0, .int .i64 0]) ?_ 0 _ rfl; refine blk_far ?_ NB283_282.out _; refine blk_far ?_ NB283_282.out _; refine blk_far ?_ NB283_282.out _; exact BK283.out⟩
          have n4_ : Aside0 (Below w.heap.size w ((((((w12.setCell ⟨gb282, 0, none⟩ (.slice Ao13 t271.length co13)).setCell ⟨gb282, 1, none⟩ (.int .i64 t274)).setCell ⟨gb282, 2, none⟩ (.int .i64 t275)).setCell ⟨gb283, 0, none⟩ (.slice Ao17 t277.length co17)).setCell ⟨gb283, 1, none⟩ (.int .i64 t280)).setCell ⟨gb283, 2, none⟩ (.int .i64 t281))) := ⟨by repeat ((with_reducible first | exact HB.out | refine below_set ?_ GE282.out | refine below_set ?_ GE283.out))⟩
          (try clear HO273)
          (try clear HO279)
          (try clear BK282)
          (try clear BK283)
          (try clear HB)
          generalize ((((((w12.setCell ⟨gb282, 0, none⟩ (.slice Ao13 t271.length co13)).setCell ⟨gb282, 1, none⟩ (.int .i64 t274)).setCell ⟨gb282, 2, none⟩ (.int .i64 t275)).setCell ⟨gb283, 0, none⟩ (.slice Ao17 t277.length co17)).setCell ⟨gb283, 1, none⟩ (.int .i64 t280)).setCell ⟨gb283, 2, none⟩ (.int .i64 t281)) = w28 at n0_ n1_ n2_ n3_ n4_ ⊢
          have HO273 := n0_
          have HO279 := n1_
          have BK282 := n2_
          have BK283 := n3_
          have HB := n4_
          clear n0_ n1_ n2_ n3_ n4_
          have n0_ := Aside0.mk (Kd.V_drew HO273.out)
          have n1_ := Aside0.mk (Kd.V_drew HO279.out)
          have n2_ := Aside0.mk (blk_drew BK282.out)
          have n3_ := Aside0.mk (blk_drew BK283.out)
          have n4_ := Aside0.mk (below_drew1 HB.out)
          clear HO273 HO279 BK282 BK283 HB; have HO273 := n0_; have HO279 := n1_; have BK282 := n2_; have BK283 := n3_; have HB := n4_; clear n0_ n1_ n2_ n3_ n4_
          have p284 : 0 ≤ (x3_1 : Int) := of_decide_eq_true (by (with_reducible assumption))
          have q284 : x3_1 < (l0.length : Int) := of_decide_eq_true (by (with_reducible assumption))
          obtain ⟨ad284, A284_3, c284_3, A284_6, c284_6, e284, hx284_0, hx284_1, hx284_2, hx284_3, hx284_4, hx284_5, hx284_6, hx284_7, hx284_8, hl284_3, hi284_3, hl284_6, hi284_6⟩ := at_T76 HR0.out x3_1 p284 q284
          have hw284_8 := hx284_8
          have hw284_7 := hx284_7
          have hw284_6 := hx284_6
          have hw284_5 := hx284_5
          have hw284_4 := hx284_4
          have hw284_3 := hx284_3
          have hw284_2 := hx284_2
          have hw284_1 := hx284_1
          have hw284_0 := hx284_0
          obtain rfl : ad270 = ad284 := (by injection e284)
          replace hx284_0 := bc_ HB.out hx284_0
          replace hx284_1 := bc_ HB.out hx284_1
          replace hx284_2 := bc_ HB.out hx284_2
          replace hx284_3 := bc_ HB.out hx284_3
          replace hx284_4 := bc_ HB.out hx284_4
          replace hx284_5 := bc_ HB.out hx284_5
          replace hx284_6 := bc_ HB.out hx284_6
          replace hx284_7 := bc_ HB.out hx284_7
          replace hx284_8 := bc_ HB.out hx284_8
          have HR284_3 := Aside0.mk hi284_3
          have HC284_3 := Aside0.mk hl284_3
          clear hi284_3 hl284_3
          have HR284_6 := Aside0.mk hi284_6
          have HC284_6 := Aside0.mk hl284_6
          clear hi284_6 hl284_6
          replace p284 := eq_true p284
          replace q284 := eq_true q284
          have p288 : 0 ≤ (x3_1 : Int) := of_decide_eq_true (by (with_reducible assumption))
          have q288 : x3_1 < (l0.length : Int) := of_decide_eq_true (by (with_reducible assumption))
          obtain ⟨ad288, A288_3, c288_3, A288_6, c288_6, e288, hx288_0, hx288_1, hx288_2, hx288_3, hx288_4, hx288_5, hx288_6, hx288_7, hx288_8, hl288_3, hi288_3, hl288_6, hi288_6⟩ := at_T76 HR0.out x3_1 p288 q288
          have hw288_8 := hx288_8
          have hw288_7 := hx288_7
          have hw288_6 := hx288_6
          have hw288_5 := hx288_5
          have hw288_4 := hx288_4
          have hw288_3 := hx288_3
          have hw288_2 := hx288_2
          have hw288_1 := hx288_1
          have hw288_0 := hx288_0
          obtain rfl : ad270 = ad288 := (by injection e288)
          replace hx288_0 := bc_ HB.out hx288_0
          replace hx288_1 := bc_ HB.out hx288_1
          replace hx288_2 := bc_ HB.out hx288_2
          replace hx288_3 := bc_ HB.out hx288_3
          replace hx288_4 := bc_ HB.out hx288_4
          replace hx288_5 := bc_ HB.out hx288_5
          replace hx288_6 := bc_ HB.out hx288_6
          replace hx288_7 := bc_ HB.out hx288_7
          replace hx288_8 := bc_ HB.out hx288_8
          have HR288_3 := Aside0.mk hi288_3
          have HC288_3 := Aside0.mk hl288_3
          clear hi288_3 hl288_3
          have HR288_6 := Aside0.mk hi288_6
          have HC288_6 := Aside0.mk hl288_6
          clear hi288_6 hl288_6
          replace p288 := eq_true p288
          replace q288 := eq_true q288
          have ea_ := Option.some.inj (hx284_3.symm.trans hx288_3)
          injection ea_ with ea_ en_ ec_
          subst ea_
          subst ec_
          clear en_
          have ea_ := Option.some.inj (hx284_6.symm.trans hx288_6)
          injection ea_ with ea_ en_ ec_
          subst ea_
          subst ec_
          clear en_
          have p289 : 0 ≤ (x3_1 : Int) := of_decide_eq_true (by (with_reducible assumption))
          have q289 : x3_1 < (l0.length : Int) := of_decide_eq_true (by (with_reducible assumption))
          obtain ⟨ad289, A289_3, c289_3, A289_6, c289_6, e289, hx289_0, hx289_1, hx289_2, hx289_3, hx289_4, hx289_5, hx289_6, hx289_7, hx289_8, hl289_3, hi289_3, hl289_6, hi289_6⟩ := at_T76 HR0.out x3_1 p289 q289
          have hw289_8 := hx289_8
          have hw289_7 := hx289_7
          have hw289_6 := hx289_6
          have hw289_5 := hx289_5
          have hw289_4 := hx289_4
          have hw289_3 := hx289_3
          have hw289_2 := hx289_2
          have hw289_1 := hx289_1
          have hw289_0 := hx289_0
          obtain rfl : ad270 = ad289 := (by injection e289)
          replace hx289_0 := bc_ HB.out hx289_0
          replace hx289_1 := bc_ HB.out hx289_1
          replace hx289_2 := bc_ HB.out hx289_2
          replace hx289_3 := bc_ HB.out hx289_3
          replace hx289_4 := bc_ HB.out hx289_4
          replace hx289_5 := bc_ HB.out hx289_5
          replace hx289_6 := bc_ HB.out hx289_6
          replace hx289_7 := bc_ HB.out hx289_7
          replace hx289_8 := bc_ HB.out hx289_8
          have HR289_3 := Aside0.mk hi289_3
          have HC289_3 := Aside0.mk hl289_3
          clear hi289_3 hl289_3
          have HR289_6 := Aside0.mk hi289_6
          have HC289_6 := Aside0.mk hl289_6
          clear hi289_6 hl289_6
          replace p289 := eq_true p289
          replace q289 := eq_true q289
          have ea_ := Option.some.inj (hx288_3.symm.trans hx289_3)
          injection ea_ with ea_ en_ ec_
          subst ea_
          subst ec_
          clear en_
          have ea_ := Option.some.inj (hx288_6.symm.trans hx289_6)
          injection ea_ with ea_ en_ ec_
          subst ea_
          subst ec_
          clear en_
          refine start_ (n := 41) (S := fun w' => w'.cell? ⟨gb282, 0, none⟩ = some (.slice Ao13 t271.length co13) ∧ w'.cell? ⟨gb282, 1, none⟩ = some (.int .i64 t274) ∧ w'.cell? ⟨gb282, 2, none⟩ = some (.int .i64 t275) ∧ w'.cell? ⟨gb283, 0, none⟩ = some (.slice Ao17 t277.length co17) ∧ w'.cell? ⟨gb283, 1, none⟩ = some (.int .i64 t280) ∧ w'.cell? ⟨gb283, 2, none⟩ = some (.int .i64 t281) ∧ hc9_ w' (ad270.add ((x3_1).toNat * 9)) (.int .i64 ((rd_T76 l0 x3_1).f0.f0)) (.int .i64 ((rd_T76 l0 x3_1).f0.f1)) (.int .i64 ((rd_T76 l0 x3_1).f0.f2)) (.slice A284_3 ((rd_T76 l0 x3_1).f1.f0).length c284_3) (.int .i64 ((rd_T76 l0 x3_1).f1.f1)) (.int .i64 ((rd_T76 l0 x3_1).f1.f2)) (.slice A284_6 ((rd_T76 l0 x3_1).f2.f0).length c284_6) (.int .i64 ((rd_T76 l0 x3_1).f2.f1)) (.int .i64 ((rd_T76 l0 x3_1).f2.f2)) (hc9_ w' (ad270.add ((x3_1).toNat * 9)) (.int .i64 ((rd_T76 l0 x3_1).f0.f0)) (.int .i64 ((rd_T76 l0 x3_1).f0.f1)) (.int .i64 ((rd_T76 l0 x3_1).f0.f2)) (.slice A284_3 ((rd_T76 l0 x3_1).f1.f0).length c284_3) (.int .i64 ((rd_T76 l0 x3_1).f1.f1)) (.int .i64 ((rd_T76 l0 x3_1).f1.f2)) (.slice A284_6 ((rd_T76 l0 x3_1).f2.f0).length c284_6) (.int .i64 ((rd_T76 l0 x3_1).f2.f1)) (.int .i64 ((rd_T76 l0 x3_1).f2.f2)) (he9_ w' (ad270.add ((x3_1).toNat * 9)) (.int .i64 ((rd_T76 l0 x3_1).f0.f0)) (.int .i64 ((rd_T76 l0 x3_1).f0.f1)) (.int .i64 ((rd_T76 l0 x3_1).f0.f2)) (.slice A284_3 ((rd_T76 l0 x3_1).f1.f0).length c284_3) (.int .i64 ((rd_T76 l0 x3_1).f1.f1)) (.int .i64 ((rd_T76 l0 x3_1).f1.f2)) (.slice A284_6 ((rd_T76 l0 x3_1).f2.f0).length c284_6) (.int .i64 ((rd_T76 l0 x3_1).f2.f1)) (.int .i64 ((rd_T76 l0 x3_1).f2.f2))))) (ds := []) #[false, false, false, false, false, false, false, false, false, false, false, false, false, false, false, false, false, false, false, false, false, false, false, false, false, false, false, false, false, false, false, false, false, false, false, false, false, false, false, false, false] (by kernel_rfl) rfl rfl ⟨(blk_cell BK282.out 0).trans rfl, (blk_cell BK282.out 1).trans rfl, (blk_cell BK282.out 2).trans rfl, (blk_cell BK283.out 0).trans rfl, (blk_cell BK283.out 1).trans rfl, (blk_cell BK283.out 2).trans rfl, (bc_ HB.out hw284_0 :), (bc_ HB.out hw284_1 :), (bc_ HB.out hw284_2 :), (bc_ HB.out hw284_3 :), (bc_ HB.out hw284_4 :), (bc_ HB.out hw284_5 :), (bc_ HB.out hw284_6 :), (bc_ HB.out hw284_7 :), (bc_ HB.out hw284_8 :), (bc_ HB.out hw288_0 :), (bc_ HB.out hw288_1 :), (bc_ HB.out hw288_2 :), (bc_ HB.out hw288_3 :), (bc_ HB.out hw288_4 :), (bc_ HB.out hw288_5 :), (bc_ HB.out hw288_6 :), (bc_ HB.out hw288_7 :), (bc_ HB.out hw288_8 :), (bc_ HB.out hw289_0 :), (bc_ HB.out hw289_1 :), (bc_ HB.out hw289_2 :), (bc_ HB.out hw289_3 :), (bc_ HB.out hw289_4 :), (bc_ HB.out hw289_5 :), (bc_ HB.out hw289_6 :), (bc_ HB.out hw289_7 :), (bc_ HB.out hw289_8 :)⟩ (fun hHeld => ?_); refine with_tabW remontoirlaw18_right.tab5 remontoirlaw18_right.bits5 (fun HT_ HW_ => ?_)
          generalize w28.drew = w29 at HO273 HO279 BK282 BK283 HB HR284_3 HR284_6 HR288_3 HR288_6 HR289_3 HR289_6 hx284_0 hx284_1 hx284_2 hx284_3 hx284_4 hx284_5 hx284_6 hx284_7 hx284_8 hx288_0 hx288_1 hx288_2 hx288_3 hx288_4 hx288_5 hx288_6 hx288_7 hx288_8 hx289_0 hx289_1 hx289_2 hx289_3 hx289_4 hx289_5 hx289_6 hx289_7 hx289_8 hHeld ⊢
          refine pa_ 0 24 (bm 41 0x1) HT_ (h := ?_)
          refine pa_ 1 25 (bm 41 0x3) HT_ (h := ?_)
          refine pa_ 2 26 (bm 41 0x7) HT_ (h := ?_)
          refine pa_ 3 27 (bm 41 0xf) HT_ (h := ?_)
          refine take_ (i := 4) (N := some 28) (v := ?_) (a' := ?_) (bm 41 0x1f) rfl rfl (take_ofW HT_.out HW_.out (by kernel_rfl)) (fun _ _ _ h => h) (Or.inl ⟨by rfl, ?_⟩) hHeld ?_ ?_
          rotate_left
          ·
           rintro w' ⟨s0, s1, s2, s3, s4, s5, s6, s7, s8, s9, s10, s11, s12, s13, s14, s15, s16, s17, s18, s19, s20, s21, s22, s23, s24, s25, s26, s27, s28, s29, s30, s31, s32⟩
           go_simp
           with_reducible rfl
          rotate_left
          ·
           simp only [Act.put, sbA, sbB, sbC, i64_w, i32_w]
           rfl
          refine one_ (i := 5) (N := some 29) (bm 41 0x3f) rfl rfl (one_of HT_.out (by kernel_rfl)) (by decide) (fun K hK => ?_)
          refine goes_ Try.func45 (by kernel_rfl) rfl #[.agg #[.int .i64 ((rd_T76 l0 x3_1).f0.f0), .int .i64 ((rd_T76 l0 x3_1).f0.f1), .int .i64 ((rd_T76 l0 x3_1).f0.f2)]] (by rfl) rfl rfl (by (try simp only [List.map_toArray, List.map_cons, List.map_nil]); rfl) ?_
          with_reducible refine (remontoirref18_May.calls ((rd_T76 l0 x3_1).f0.f0) ((rd_T76 l0 x3_1).f0.f1) ((rd_T76 l0 x3_1).f0.f2) true _ A21.out).mono ?_
          rintro e w30 ⟨rfl, hb⟩
          refine ⟨_, rfl, ?_⟩
          replace HO273 := vb_ HO273 hb; replace HO279 := vb_ HO279 hb; replace BK282 := kb_ BK282 hb; replace BK283 := kb_ BK283 hb; replace HB := hb_ HB hb
          (try clear hb)
          (try clear hb2)
          (try clear hk)
          (try clear hi)
          refine hK.out _ _ ⟨(blk_cell BK282.out 0).trans rfl, (blk_cell BK282.out 1).trans rfl, (blk_cell BK282.out 2).trans rfl, (blk_cell BK283.out 0).trans rfl, (blk_cell BK283.out 1).trans rfl, (blk_cell BK283.out 2).trans rfl, bc_ HB.out hw284_0, bc_ HB.out hw284_1, bc_ HB.out hw284_2, bc_ HB.out hw284_3, bc_ HB.out hw284_4, bc_ HB.out hw284_5, bc_ HB.out hw284_6, bc_ HB.out hw284_7, bc_ HB.out hw284_8, bc_ HB.out hw288_0, bc_ HB.out hw288_1, bc_ HB.out hw288_2, bc_ HB.out hw288_3, bc_ HB.out hw288_4, bc_ HB.out hw288_5, bc_ HB.out hw288_6, bc_ HB.out hw288_7, bc_ HB.out hw288_8, bc_ HB.out hw289_0, bc_ HB.out hw289_1, bc_ HB.out hw289_2, bc_ HB.out hw289_3, bc_ HB.out hw289_4, bc_ HB.out hw289_5, bc_ HB.out hw289_6, bc_ HB.out hw289_7, bc_ HB.out hw289_8⟩ (fun hHeld => ?_)
          clear hK K
          refine nm_ 29 (h := ?_)
          refine pa_ 6 30 (bm 41 0x7f) HT_ (h := ?_)
          refine pa_ 7 31 (bm 41 0xff) HT_ (h := ?_)
          refine take_ (i := 8) (N := some 32) (v := ?_) (a' := ?_) (bm 41 0x1ff) rfl rfl (take_ofW HT_.out HW_.out (by kernel_rfl)) (fun _ _ _ h => h) (Or.inl ⟨by rfl, ?_⟩) hHeld ?_ ?_
          rotate_left
          ·
           rintro w' ⟨s0, s1, s2, s3, s4, s5, s6, s7, s8, s9, s10, s11, s12, s13, s14, s15, s16, s17, s18, s19, s20, s21, s22, s23, s24, s25, s26, s27, s28, s29, s30, s31, s32⟩
           go_simp
           with_reducible rfl
          rotate_left
          ·
           simp only [Act.put, sbA, sbB, sbC, i64_w, i32_w]
           rfl
          refine one_ (i := 9) (N := some 33) (bm 41 0x3ff) rfl rfl (one_of HT_.out (by kernel_rfl)) (by decide) (fun K hK => ?_)
          refine goes_ Try.func14 (by kernel_rfl) rfl #[.agg #[.slice Ao13 t271.length co13, .int .i64 t274, .int .i64 t275]] (by rfl) rfl rfl (by (try simp only [List.map_toArray, List.map_cons, List.map_nil]); rfl) ?_
          with_reducible refine (remontoirref03_Right.calls _ _ t271 t274 t275 true _ ?side1 ?side2 A23.out).mono ?_
          (case side1 => repeat ((exact (Kd.V_reads' HO273.out).2.2)))
          (case side2 => exact (Kd.V_reads' HO273.out).2.1)
          rintro e w31 ⟨rfl, hb⟩
          refine ⟨_, rfl, ?_⟩
          replace HO273 := vb_ HO273 hb; replace HO279 := vb_ HO279 hb; replace BK282 := kb_ BK282 hb; replace BK283 := kb_ BK283 hb; replace HB := hb_ HB hb
          (try clear hb)
          (try clear hb2)
          (try clear hk)
          (try clear hi)
          refine hK.out _ _ ⟨(blk_cell BK282.out 0).trans rfl, (blk_cell BK282.out 1).trans rfl, (blk_cell BK282.out 2).trans rfl, (blk_cell BK283.out 0).trans rfl, (blk_cell BK283.out 1).trans rfl, (blk_cell BK283.out 2).trans rfl, bc_ HB.out hw284_0, bc_ HB.out hw284_1, bc_ HB.out hw284_2, bc_ HB.out hw284_3, bc_ HB.out hw284_4, bc_ HB.out hw284_5, bc_ HB.out hw284_6, bc_ HB.out hw284_7, bc_ HB.out hw284_8, bc_ HB.out hw288_0, bc_ HB.out hw288_1, bc_ HB.out hw288_2, bc_ HB.out hw288_3, bc_ HB.out hw288_4, bc_ HB.out hw288_5, bc_ HB.out hw288_6, bc_ HB.out hw288_7, bc_ HB.out hw288_8, bc_ HB.out hw289_0, bc_ HB.out hw289_1, bc_ HB.out hw289_2, bc_ HB.out hw289_3, bc_ HB.out hw289_4, bc_ HB.out hw289_5, bc_ HB.out hw289_6, bc_ HB.out hw289_7, bc_ HB.out hw289_8⟩ (fun hHeld => ?_)
          clear hK K
          refine nm_ 33 (h := ?_)
          refine pa_ 10 34 (bm 41 0x7ff) HT_ (h := ?_)
          refine pa_ 11 35 (bm 41 0xfff) HT_ (h := ?_)
          refine pa_ 12 36 (bm 41 0x1fff) HT_ (h := ?_)
          refine take_ (i := 13) (N := some 37) (v := ?_) (a' := ?_) (bm 41 0x3fff) rfl rfl (take_ofW HT_.out HW_.out (by kernel_rfl)) (fun _ _ _ h => h) (Or.inl ⟨by rfl, ?_⟩) hHeld ?_ ?_
          rotate_left
          ·
           rintro w' ⟨s0, s1, s2, s3, s4, s5, s6, s7, s8, s9, s10, s11, s12, s13, s14, s15, s16, s17, s18, s19, s20, s21, s22, s23, s24, s25, s26, s27, s28, s29, s30, s31, s32⟩
           go_simp
           with_reducible rfl
          rotate_left
          ·
           simp only [Act.put, sbA, sbB, sbC, i64_w, i32_w]
           rfl
          refine one_ (i := 14) (N := some 38) (bm 41 0x7fff) rfl rfl (one_of HT_.out (by kernel_rfl)) (by decide) (fun K hK => ?_)
          refine goes_ Try.func14 (by kernel_rfl) rfl #[.agg #[.slice Ao17 t277.length co17, .int .i64 t280, .int .i64 t281]] (by rfl) rfl rfl (by (try simp only [List.map_toArray, List.map_cons, List.map_nil]); rfl) ?_
          with_reducible refine (remontoirref03_Right.calls _ _ t277 t280 t281 true _ ?side1 ?side2 A25.out).mono ?_
          (case side1 => repeat ((exact (Kd.V_reads' HO279.out).2.2)))
          (case side2 => exact (Kd.V_reads' HO279.out).2.1)
          rintro e w32 ⟨rfl, hb⟩
          refine ⟨_, rfl, ?_⟩
          replace HO273 := vb_ HO273 hb; replace HO279 := vb_ HO279 hb; replace BK282 := kb_ BK282 hb; replace BK283 := kb_ BK283 hb; replace HB := hb_ HB hb
          (try clear hb)
          (try clear hb2)
          (try clear hk)
          (try clear hi)
          refine hK.out _ _ ⟨(blk_cell BK282.out 0).trans rfl, (blk_cell BK282.out 1).trans rfl, (blk_cell BK282.out 2).trans rfl, (blk_cell BK283.out 0).trans rfl, (blk_cell BK283.out 1).trans rfl, (blk_cell BK283.out 2).trans rfl, bc_ HB.out hw284_0, bc_ HB.out hw284_1, bc_ HB.out hw284_2, bc_ HB.out hw284_3, bc_ HB.out hw284_4, bc_ HB.out hw284_5, bc_ HB.out hw284_6, bc_ HB.out hw284_7, bc_ HB.out hw284_8, bc_ HB.out hw288_0, bc_ HB.out hw288_1, bc_ HB.out hw288_2, bc_ HB.out hw288_3, bc_ HB.out hw288_4, bc_ HB.out hw288_5, bc_ HB.out hw288_6, bc_ HB.out hw288_7, bc_ HB.out hw288_8, bc_ HB.out hw289_0, bc_ HB.out hw289_1, bc_ HB.out hw289_2, bc_ HB.out hw289_3, bc_ HB.out hw289_4, bc_ HB.out hw289_5, bc_ HB.out hw289_6, bc_ HB.out hw289_7, bc_ HB.out hw289_8⟩ (fun hHeld => ?_)
          clear hK K
          refine nm_ 38 (h := ?_)
          refine pa_ 15 39 (bm 41 0xffff) HT_ (h := ?_)
          refine pa_ 16 40 (bm 41 0x1ffff) HT_ (h := ?_)
          refine pa_ 17 41 (bm 41 0x3ffff) HT_ (h := ?_)
          refine pa_ 18 42 (bm 41 0x7ffff) HT_ (h := ?_)
          refine pa_ 21 45 (bm 41 0x27ffff) HT_ (h := ?_)
          refine pa_ 22 46 (bm 41 0x67ffff) HT_ (h := ?_)
          refine pa_ 23 47 (bm 41 0xe7ffff) HT_ (h := ?_)
          refine pa_ 24 48 (bm 41 0x1e7ffff) HT_ (h := ?_)
          refine pa_ 25 49 (bm 41 0x3e7ffff) HT_ (h := ?_)
          refine take_ (i := 19) (N := some 43) (v := ?_) (a' := ?_) (bm 41 0x3efffff) rfl rfl (take_ofW HT_.out HW_.out (by kernel_rfl)) (fun _ _ _ h => h) (Or.inl ⟨by rfl, ?_⟩) hHeld ?_ ?_
          rotate_left
          ·
           rintro w' ⟨s0, s1, s2, s3, s4, s5, s6, s7, s8, s9, s10, s11, s12, s13, s14, s15, s16, s17, s18, s19, s20, s21, s22, s23, s24, s25, s26, s27, s28, s29, s30, s31, s32⟩
           go_simp
           with_reducible rfl
          rotate_left
          ·
           simp only [Act.put, sbA, sbB, sbC, i64_w, i32_w]
           rfl
          refine pa_ 20 44 (bm 41 0x3ffffff) HT_ (h := ?_)
          refine take_ (i := 26) (N := some 50) (v := ?_) (a' := ?_) (bm 41 0x7ffffff) rfl rfl (take_ofW HT_.out HW_.out (by kernel_rfl)) (fun _ _ _ h => h) (Or.inl ⟨by rfl, ?_⟩) hHeld ?_ ?_
          rotate_left
          ·
           rintro w' ⟨s0, s1, s2, s3, s4, s5, s6, s7, s8, s9, s10, s11, s12, s13, s14, s15, s16, s17, s18, s19, s20, s21, s22, s23, s24, s25, s26, s27, s28, s29, s30, s31, s32⟩
           go_simp
           with_reducible rfl
          rotate_left
          ·
           simp only [Act.put, sbA, sbB, sbC, i64_w, i32_w]
           rfl
          refine pa_ 27 51 (bm 41 0xfffffff) HT_ (h := ?_)
          refine pa_ 28 52 (bm 41 0x1fffffff) HT_ (h := ?_)
          refine pa_ 29 53 (bm 41 0x3fffffff) HT_ (h := ?_)
          refine pa_ 30 54 (bm 41 0x7fffffff) HT_ (h := ?_)
          refine pa_ 33 57 (bm 41 0x27fffffff) HT_ (h := ?_)
          refine pa_ 34 58 (bm 41 0x67fffffff) HT_ (h := ?_)
          refine pa_ 35 59 (bm 41 0xe7fffffff) HT_ (h := ?_)
          refine pa_ 36 60 (bm 41 0x1e7fffffff) HT_ (h := ?_)
          refine pa_ 37 61 (bm 41 0x3e7fffffff) HT_ (h := ?_)
          refine take_ (i := 31) (N := some 55) (v := ?_) (a' := ?_) (bm 41 0x3effffffff) rfl rfl (take_ofW HT_.out HW_.out (by kernel_rfl)) (fun _ _ _ h => h) (Or.inl ⟨by rfl, ?_⟩) hHeld ?_ ?_
          rotate_left
          ·
           rintro w' ⟨s0, s1, s2, s3, s4, s5, s6, s7, s8, s9, s10, s11, s12, s13, s14, s15, s16, s17, s18, s19, s20, s21, s22, s23, s24, s25, s26, s27, s28, s29, s30, s31, s32⟩
           go_simp
           with_reducible rfl
          rotate_left
          ·
           simp only [Act.put, sbA, sbB, sbC, i64_w, i32_w]
           rfl
          refine pa_ 32 56 (bm 41 0x3fffffffff) HT_ (h := ?_)
          refine take_ (i := 38) (N := some 62) (v := ?_) (a' := ?_) (bm 41 0x7fffffffff) rfl rfl (take_ofW HT_.out HW_.out (by kernel_rfl)) (fun _ _ _ h => h) (Or.inl ⟨by rfl, ?_⟩) hHeld ?_ ?_
          rotate_left
          ·
           rintro w' ⟨s0, s1, s2, s3, s4, s5, s6, s7, s8, s9, s10, s11, s12, s13, s14, s15, s16, s17, s18, s19, s20, s21, s22, s23, s24, s25, s26, s27, s28, s29, s30, s31, s32⟩
           go_simp
           with_reducible rfl
          rotate_left
          ·
           simp only [Act.put, sbA, sbB, sbC, i64_w, i32_w]
           rfl
          refine pa_ 39 63 (bm 41 0xffffffffff) HT_ (h := ?_)
          refine pa_ 40 64 (bm 41 0x1ffffffffff) HT_ (h := ?_)
          refine done_ (done_of HT_.out (by kernel_rfl)) ?_
          try go_wp2
          go_meet
          case rel => exact ⟨_, (((t277.length : Int) != ((rd_T76 l0 x3_1).f0.f2))), (by rfl), H', ⟨by have := HK1.out; omega⟩, ⟨HO273.out⟩, ⟨HO279.out⟩, ⟨BK282.out⟩, ⟨BK283.out⟩, ⟨HB.out⟩⟩
         ·
          rw [if_neg c27] at H
          have c27b0 : ((t271.length : Int) == ((rd_T76 l0 x3_1).f0.f2)) = false := beq_eq_false_iff_ne.mpr c27
          have c27b1 : ((t271.length : Int) != ((rd_T76 l0 x3_1).f0.f2)) = true := bne_iff_ne.mpr c27
          (skip)
          have H' := Aside0.mk H
          clear H
          try go_wp2
          have n0_ : Aside0 (Kd.V (Kd.int .i64) 3 ((((((w12.setCell ⟨gb282, 0, none⟩ (.slice Ao13 t271.length co13)).setCell ⟨gb282, 1, none⟩ (.int .i64 t274)).setCell ⟨gb282, 2, none⟩ (.int .i64 t275)).setCell ⟨gb283, 0, none⟩ (.slice Ao17 t277.length co17)).setCell ⟨gb283, 1, none⟩ (.int .i64 t280)).setCell ⟨gb283, 2, none⟩ (.int .i64 t281)) w.heap.size (fun k_ => k_ ≠ gb282 ∧ k_ ≠ gb283) (.slice Ao13 t271.length co13) t271) := ⟨by exact Kd.V_mono (vf3_ (vf3_ (Kd.V_mono (Kd.V_mono HO273.out (fun k_ hk => (⟨hk, hk.1⟩ : _ ∧ k_ ≠ gb282))) (fun k_ hk => (⟨hk, hk.1.2⟩ : _ ∧ k_ ≠ gb283))) (fun _ hk => hk.1.2)) (fun _ hk => hk.2)) (fun _ hk => ⟨hk.1.1.1, hk.1.1.2⟩)⟩
          have n1_ : Aside0 (Kd.V (Kd.int .i64) 3 ((((((w12.setCell ⟨gb282, 0, none⟩ (.slice Ao13 t271.length co13)).setCell ⟨gb282, 1, none⟩ (.int .i64 t274)).setCell ⟨gb282, 2, none⟩ (.int .i64 t275)).setCell ⟨gb283, 0, none⟩ (.slice Ao17 t277.length co17)).setCell ⟨gb283, 1, none⟩ (.int .i64 t280)).setCell ⟨gb283, 2, none⟩ (.int .i64 t281)) w.heap.size (fun k_ => k_ ≠ gb282 ∧ k_ ≠ gb283) (.slice Ao17 t277.length co17) t277) := ⟨by exact Kd.V_mono (vf3_ (vf3_ (Kd.V_mono (Kd.V_mono HO279.out (fun k_ hk => (⟨hk, hk.1⟩ : _ ∧ k_ ≠ gb282))) (fun k_ hk => (⟨hk, hk.1.2⟩ : _ ∧ k_ ≠ gb283))) (fun _ hk => hk.1.2)) (fun _ hk => hk.2)) (fun _ hk => ⟨hk.1.1.1, hk.1.1.2⟩)⟩
          have n2_ : Aside0 (((((((w12.setCell ⟨gb282, 0, none⟩ (.slice Ao13 t271.length co13)).setCell ⟨gb282, 1, none⟩ (.int .i64 t274)).setCell ⟨gb282, 2, none⟩ (.int .i64 t275)).setCell ⟨gb283, 0, none⟩ (.slice Ao17 t277.length co17)).setCell ⟨gb283, 1, none⟩ (.int .i64 t280)).setCell ⟨gb283, 2, none⟩ (.int .i64 t281)).heap[gb282]? = some (.cells #[.slice Ao13 t271.length co13, .int .i64 t274, .int .i64 t275] 30 (0, 0))) := ⟨by refine blk_far ?_ NB282_283.out _; refine blk_far ?_ NB282_283.out _; refine blk_far ?_ NB282_283.out _; exact bp3_ BK282.out⟩
          have n3_ : Aside0 (((((((w12.setCell ⟨gb282, 0, none⟩ (.slice Ao13 t271.length co13)).setCell ⟨gb282, 1, none⟩ (.int .i64 t274)).setCell ⟨gb282, 2, none⟩ (.int .i64 t275)).setCell ⟨gb283, 0, none⟩ (.slice Ao17 t277.length co17)).setCell ⟨gb283, 1, none⟩ (.int .i64 t280)).setCell ⟨gb283, 2, none⟩ (.int .i64 t281)).heap[gb283]? = some (.cells #[.slice Ao17 t277.length co17, .int .i64 t280, .int .i64 t281] 30 (0, 0))) := ⟨by refine blk_put (cs := #[.slice Ao17 t277.length co17, .int .i64 t280, .int .i64 0]) ?_ 2 _ rfl; refine blk_put (cs := #[.slice Ao17 t277.length co17, .int .i64 0, .int .i64 0]) ?_ 1 _ rfl; refine blk_put (cs := #[.slice none 0 0, .int .i64 0, .int .i64 0]) ?_ 0 _ rfl; refine blk_far ?_ NB283_282.out _; refine blk_far ?_ NB283_282.out _; refine blk_far ?_ NB283_282.out _; exact BK283.out⟩
          have n4_ : Aside0 (Below w.heap.size w ((((((w12.setCell ⟨gb282, 0, none⟩ (.slice Ao13 t271.length co13)).setCell ⟨gb282, 1, none⟩ (.int .i64 t274)).setCell ⟨gb282, 2, none⟩ (.int .i64 t275)).setCell ⟨gb283, 0, none⟩ (.slice Ao17 t277.length co17)).setCell ⟨gb283, 1, none⟩ (.int .i64 t280)).setCell ⟨gb283, 2, none⟩ (.int .i64 t281))) := ⟨by repeat ((with_reducible first | exact HB.out | refine below_set ?_ GE282.out | refine below_set ?_ GE283.out))⟩
          (try clear HO273)
          (try clear HO279)
          (try clear BK282)
          (try clear BK283)
          (try clear HB)
          generalize ((((((w12.setCell ⟨gb282, 0, none⟩ (.slice Ao13 t271.length co13)).setCell ⟨gb282, 1, none⟩ (.int .i64 t274)).setCell ⟨gb282, 2, none⟩ (.int .i64 t275)).setCell ⟨gb283, 0, none⟩ (.slice Ao17 t277.length co17)).setCell ⟨gb283, 1, none⟩ (.int .i64 t280)).setCell ⟨gb283, 2, none⟩ (.int .i64 t281)) = w33 at n0_ n1_ n2_ n3_ n4_ ⊢
          have HO273 := n0_
          have HO279 := n1_
          have BK282 := n2_
          have BK283 := n3_
          have HB := n4_
          clear n0_ n1_ n2_ n3_ n4_
          have n0_ := Aside0.mk (Kd.V_drew HO273.out)
          have n1_ := Aside0.mk (Kd.V_drew HO279.out)
          have n2_ := Aside0.mk (blk_drew BK282.out)
          have n3_ := Aside0.mk (blk_drew BK283.out)
          have n4_ := Aside0.mk (below_drew1 HB.out)
          clear HO273 HO279 BK282 BK283 HB; have HO273 := n0_; have HO279 := n1_; have BK282 := n2_; have BK283 := n3_; have HB := n4_; clear n0_ n1_ n2_ n3_ n4_
          have p284 : 0 ≤ (x3_1 : Int) := of_decide_eq_true (by (with_reducible assumption))
          have q284 : x3_1 < (l0.length : Int) := of_decide_eq_true (by (with_reducible assumption))
          obtain ⟨ad284, A284_3, c284_3, A284_6, c284_6, e284, hx284_0, hx284_1, hx284_2, hx284_3, hx284_4, hx284_5, hx284_6, hx284_7, hx284_8, hl284_3, hi284_3, hl284_6, hi284_6⟩ := at_T76 HR0.out x3_1 p284 q284
          have hw284_8 := hx284_8
          have hw284_7 := hx284_7
          have hw284_6 := hx284_6
          have hw284_5 := hx284_5
          have hw284_4 := hx284_4
          have hw284_3 := hx284_3
          have hw284_2 := hx284_2
          have hw284_1 := hx284_1
          have hw284_0 := hx284_0
          obtain rfl : ad270 = ad284 := (by injection e284)
          replace hx284_0 := bc_ HB.out hx284_0
          replace hx284_1 := bc_ HB.out hx284_1
          replace hx284_2 := bc_ HB.out hx284_2
          replace hx284_3 := bc_ HB.out hx284_3
          replace hx284_4 := bc_ HB.out hx284_4
          replace hx284_5 := bc_ HB.out hx284_5
          replace hx284_6 := bc_ HB.out hx284_6
          replace hx284_7 := bc_ HB.out hx284_7
          replace hx284_8 := bc_ HB.out hx284_8
          have HR284_3 := Aside0.mk hi284_3
          have HC284_3 := Aside0.mk hl284_3
          clear hi284_3 hl284_3
          have HR284_6 := Aside0.mk hi284_6
          have HC284_6 := Aside0.mk hl284_6
          clear hi284_6 hl284_6
          replace p284 := eq_true p284
          replace q284 := eq_true q284
          have p288 : 0 ≤ (x3_1 : Int) := of_decide_eq_true (by (with_reducible assumption))
          have q288 : x3_1 < (l0.length : Int) := of_decide_eq_true (by (with_reducible assumption))
          obtain ⟨ad288, A288_3, c288_3, A288_6, c288_6, e288, hx288_0, hx288_1, hx288_2, hx288_3, hx288_4, hx288_5, hx288_6, hx288_7, hx288_8, hl288_3, hi288_3, hl288_6, hi288_6⟩ := at_T76 HR0.out x3_1 p288 q288
          have hw288_8 := hx288_8
          have hw288_7 := hx288_7
          have hw288_6 := hx288_6
          have hw288_5 := hx288_5
          have hw288_4 := hx288_4
          have hw288_3 := hx288_3
          have hw288_2 := hx288_2
          have hw288_1 := hx288_1
          have hw288_0 := hx288_0
          obtain rfl : ad270 = ad288 := (by injection e288)
          replace hx288_0 := bc_ HB.out hx288_0
          replace hx288_1 := bc_ HB.out hx288_1
          replace hx288_2 := bc_ HB.out hx288_2
          replace hx288_3 := bc_ HB.out hx288_3
          replace hx288_4 := bc_ HB.out hx288_4
          replace hx288_5 := bc_ HB.out hx288_5
          replace hx288_6 := bc_ HB.out hx288_6
          replace hx288_7 := bc_ HB.out hx288_7
          replace hx288_8 := bc_ HB.out hx288_8
          have HR288_3 := Aside0.mk hi288_3
          have HC288_3 := Aside0.mk hl288_3
          clear hi288_3 hl288_3
          have HR288_6 := Aside0.mk hi288_6
          have HC288_6 := Aside0.mk hl288_6
          clear hi288_6 hl288_6
          replace p288 := eq_true p288
          replace q288 := eq_true q288
          have ea_ := Option.some.inj (hx284_3.symm.trans hx288_3)
          injection ea_ with ea_ en_ ec_
          subst ea_
          subst ec_
          clear en_
          have ea_ := Option.some.inj (hx284_6.symm.trans hx288_6)
          injection ea_ with ea_ en_ ec_
          subst ea_
          subst ec_
          clear en_
          refine start_ (n := 41) (S := fun w' => w'.cell? ⟨gb282, 0, none⟩ = some (.slice Ao13 t271.length co13) ∧ w'.cell? ⟨gb282, 1, none⟩ = some (.int .i64 t274) ∧ w'.cell? ⟨gb282, 2, none⟩ = some (.int .i64 t275) ∧ w'.cell? ⟨gb283, 0, none⟩ = some (.slice Ao17 t277.length co17) ∧ w'.cell? ⟨gb283, 1, none⟩ = some (.int .i64 t280) ∧ w'.cell? ⟨gb283, 2, none⟩ = some (.int .i64 t281) ∧ hc9_ w' (ad270.add ((x3_1).toNat * 9)) (.int .i64 ((rd_T76 l0 x3_1).f0.f0)) (.int .i64 ((rd_T76 l0 x3_1).f0.f1)) (.int .i64 ((rd_T76 l0 x3_1).f0.f2)) (.slice A284_3 ((rd_T76 l0 x3_1).f1.f0).length c284_3) (.int .i64 ((rd_T76 l0 x3_1).f1.f1)) (.int .i64 ((rd_T76 l0 x3_1).f1.f2)) (.slice A284_6 ((rd_T76 l0 x3_1).f2.f0).length c284_6) (.int .i64 ((rd_T76 l0 x3_1).f2.f1)) (.int .i64 ((rd_T76 l0 x3_1).f2.f2)) (he9_ w' (ad270.add ((x3_1).toNat * 9)) (.int .i64 ((rd_T76 l0 x3_1).f0.f0)) (.int .i64 ((rd_T76 l0 x3_1).f0.f1)) (.int .i64 ((rd_T76 l0 x3_1).f0.f2)) (.slice A284_3 ((rd_T76 l0 x3_1).f1.f0).length c284_3) (.int .i64 ((rd_T76 l0 x3_1).f1.f1)) (.int .i64 ((rd_T76 l0 x3_1).f1.f2)) (.slice A284_6 ((rd_T76 l0 x3_1).f2.f0).length c284_6) (.int .i64 ((rd_T76 l0 x3_1).f2.f1)) (.int .i64 ((rd_T76 l0 x3_1).f2.f2)))) (ds := []) #[false, false, false, false, false, false, false, false, false, false, false, false, false, false, false, false, false, false, false, false, false, false, false, false, false, false, false, false, false, false, false, false, false, false, false, false, false, false, false, false, false] (by kernel_rfl) rfl rfl ⟨(blk_cell BK282.out 0).trans rfl, (blk_cell BK282.out 1).trans rfl, (blk_cell BK282.out 2).trans rfl, (blk_cell BK283.out 0).trans rfl, (blk_cell BK283.out 1).trans rfl, (blk_cell BK283.out 2).trans rfl, (bc_ HB.out hw284_0 :), (bc_ HB.out hw284_1 :), (bc_ HB.out hw284_2 :), (bc_ HB.out hw284_3 :), (bc_ HB.out hw284_4 :), (bc_ HB.out hw284_5 :), (bc_ HB.out hw284_6 :), (bc_ HB.out hw284_7 :), (bc_ HB.out hw284_8 :), (bc_ HB.out hw288_0 :), (bc_ HB.out hw288_1 :), (bc_ HB.out hw288_2 :), (bc_ HB.out hw288_3 :), (bc_ HB.out hw288_4 :), (bc_ HB.out hw288_5 :), (bc_ HB.out hw288_6 :), (bc_ HB.out hw288_7 :), (bc_ HB.out hw288_8 :)⟩ (fun hHeld => ?_); refine with_tabW remontoirlaw18_right.tab5 remontoirlaw18_right.bits5 (fun HT_ HW_ => ?_)
          generalize w33.drew = w34 at HO273 HO279 BK282 BK283 HB HR284_3 HR284_6 HR288_3 HR288_6 hx284_0 hx284_1 hx284_2 hx284_3 hx284_4 hx284_5 hx284_6 hx284_7 hx284_8 hx288_0 hx288_1 hx288_2 hx288_3 hx288_4 hx288_5 hx288_6 hx288_7 hx288_8 hHeld ⊢
          refine pa_ 0 24 (bm 41 0x1) HT_ (h := ?_)
          refine pa_ 1 25 (bm 41 0x3) HT_ (h := ?_)
          refine pa_ 2 26 (bm 41 0x7) HT_ (h := ?_)
          refine pa_ 3 27 (bm 41 0xf) HT_ (h := ?_)
          refine take_ (i := 4) (N := some 28) (v := ?_) (a' := ?_) (bm 41 0x1f) rfl rfl (take_ofW HT_.out HW_.out (by kernel_rfl)) (fun _ _ _ h => h) (Or.inl ⟨by rfl, ?_⟩) hHeld ?_ ?_
          rotate_left
          ·
           rintro w' ⟨s0, s1, s2, s3, s4, s5, s6, s7, s8, s9, s10, s11, s12, s13, s14, s15, s16, s17, s18, s19, s20, s21, s22, s23⟩
           go_simp
           with_reducible rfl
          rotate_left
          ·
           simp only [Act.put, sbA, sbB, sbC, i64_w, i32_w]
           rfl
          refine one_ (i := 5) (N := some 29) (bm 41 0x3f) rfl rfl (one_of HT_.out (by kernel_rfl)) (by decide) (fun K hK => ?_)
          refine goes_ Try.func45 (by kernel_rfl) rfl #[.agg #[.int .i64 ((rd_T76 l0 x3_1).f0.f0), .int .i64 ((rd_T76 l0 x3_1).f0.f1), .int .i64 ((rd_T76 l0 x3_1).f0.f2)]] (by rfl) rfl rfl (by (try simp only [List.map_toArray, List.map_cons, List.map_nil]); rfl) ?_
          with_reducible refine (remontoirref18_May.calls ((rd_T76 l0 x3_1).f0.f0) ((rd_T76 l0 x3_1).f0.f1) ((rd_T76 l0 x3_1).f0.f2) true _ A21.out).mono ?_
          rintro e w35 ⟨rfl, hb⟩
          refine ⟨_, rfl, ?_⟩
          replace HO273 := vb_ HO273 hb; replace HO279 := vb_ HO279 hb; replace BK282 := kb_ BK282 hb; replace BK283 := kb_ BK283 hb; replace HB := hb_ HB hb
          (try clear hb)
          (try clear hb2)
          (try clear hk)
          (try clear hi)
          refine hK.out _ _ ⟨(blk_cell BK282.out 0).trans rfl, (blk_cell BK282.out 1).trans rfl, (blk_cell BK282.out 2).trans rfl, (blk_cell BK283.out 0).trans rfl, (blk_cell BK283.out 1).trans rfl, (blk_cell BK283.out 2).trans rfl, bc_ HB.out hw284_0, bc_ HB.out hw284_1, bc_ HB.out hw284_2, bc_ HB.out hw284_3, bc_ HB.out hw284_4, bc_ HB.out hw284_5, bc_ HB.out hw284_6, bc_ HB.out hw284_7, bc_ HB.out hw284_8, bc_ HB.out hw288_0, bc_ HB.out hw288_1, bc_ HB.out hw288_2, bc_ HB.out hw288_3, bc_ HB.out hw288_4, bc_ HB.out hw288_5, bc_ HB.out hw288_6, bc_ HB.out hw288_7, bc_ HB.out hw288_8⟩ (fun hHeld => ?_)
          clear hK K
          refine nm_ 29 (h := ?_)
          refine pa_ 6 30 (bm 41 0x7f) HT_ (h := ?_)
          refine pa_ 7 31 (bm 41 0xff) HT_ (h := ?_)
          refine take_ (i := 8) (N := some 32) (v := ?_) (a' := ?_) (bm 41 0x1ff) rfl rfl (take_ofW HT_.out HW_.out (by kernel_rfl)) (fun _ _ _ h => h) (Or.inl ⟨by rfl, ?_⟩) hHeld ?_ ?_
          rotate_left
          ·
           rintro w' ⟨s0, s1, s2, s3, s4, s5, s6, s7, s8, s9, s10, s11, s12, s13, s14, s15, s16, s17, s18, s19, s20, s21, s22, s23⟩
           go_simp
           with_reducible rfl
          rotate_left
          ·
           simp only [Act.put, sbA, sbB, sbC, i64_w, i32_w]
           rfl
          refine one_ (i := 9) (N := some 33) (bm 41 0x3ff) rfl rfl (one_of HT_.out (by kernel_rfl)) (by decide) (fun K hK => ?_)
          refine goes_ Try.func14 (by kernel_rfl) rfl #[.agg #[.slice Ao13 t271.length co13, .int .i64 t274, .int .i64 t275]] (by rfl) rfl rfl (by (try simp only [List.map_toArray, List.map_cons, List.map_nil]); rfl) ?_
          with_reducible refine (remontoirref03_Right.calls _ _ t271 t274 t275 true _ ?side1 ?side2 A23.out).mono ?_
          (case side1 => repeat ((exact (Kd.V_reads' HO273.out).2.2)))
          (case side2 => exact (Kd.V_reads' HO273.out).2.1)
          rintro e w36 ⟨rfl, hb⟩
          refine ⟨_, rfl, ?_⟩
          replace HO273 := vb_ HO273 hb; replace HO279 := vb_ HO279 hb; replace BK282 := kb_ BK282 hb; replace BK283 := kb_ BK283 hb; replace HB := hb_ HB hb
          (try clear hb)
          (try clear hb2)
          (try clear hk)
          (try clear hi)
          refine hK.out _ _ ⟨(blk_cell BK282.out 0).trans rfl, (blk_cell BK282.out 1).trans rfl, (blk_cell BK282.out 2).trans rfl, (blk_cell BK283.out 0).trans rfl, (blk_cell BK283.out 1).trans rfl, (blk_cell BK283.out 2).trans rfl, bc_ HB.out hw284_0, bc_ HB.out hw284_1, bc_ HB.out hw284_2, bc_ HB.out hw284_3, bc_ HB.out hw284_4, bc_ HB.out hw284_5, bc_ HB.out hw284_6, bc_ HB.out hw284_7, bc_ HB.out hw284_8, bc_ HB.out hw288_0, bc_ HB.out hw288_1, bc_ HB.out hw288_2, bc_ HB.out hw288_3, bc_ HB.out hw288_4, bc_ HB.out hw288_5, bc_ HB.out hw288_6, bc_ HB.out hw288_7, bc_ HB.out hw288_8⟩ (fun hHeld => ?_)
          clear hK K
          refine nm_ 33 (h := ?_)
          refine pa_ 10 34 (bm 41 0x7ff) HT_ (h := ?_)
          refine pa_ 11 35 (bm 41 0xfff) HT_ (h := ?_)
          refine pa_ 12 36 (bm 41 0x1fff) HT_ (h := ?_)
          refine take_ (i := 13) (N := some 37) (v := ?_) (a' := ?_) (bm 41 0x3fff) rfl rfl (take_ofW HT_.out HW_.out (by kernel_rfl)) (fun _ _ _ h => h) (Or.inl ⟨by rfl, ?_⟩) hHeld ?_ ?_
          rotate_left
          ·
           rintro w' ⟨s0, s1, s2, s3, s4, s5, s6, s7, s8, s9, s10, s11, s12, s13, s14, s15, s16, s17, s18, s19, s20, s21, s22, s23⟩
           go_simp
           with_reducible rfl
          rotate_left
          ·
           simp only [Act.put, sbA, sbB, sbC, i64_w, i32_w]
           rfl
          refine one_ (i := 14) (N := some 38) (bm 41 0x7fff) rfl rfl (one_of HT_.out (by kernel_rfl)) (by decide) (fun K hK => ?_)
          refine goes_ Try.func14 (by kernel_rfl) rfl #[.agg #[.slice Ao17 t277.length co17, .int .i64 t280, .int .i64 t281]] (by rfl) rfl rfl (by (try simp only [List.map_toArray, List.map_cons, List.map_nil]); rfl) ?_
          with_reducible refine (remontoirref03_Right.calls _ _ t277 t280 t281 true _ ?side1 ?side2 A25.out).mono ?_
          (case side1 => repeat ((exact (Kd.V_reads' HO279.out).2.2)))
          (case side2 => exact (Kd.V_reads' HO279.out).2.1)
          rintro e w37 ⟨rfl, hb⟩
          refine ⟨_, rfl, ?_⟩
          replace HO273 := vb_ HO273 hb; replace HO279 := vb_ HO279 hb; replace BK282 := kb_ BK282 hb; replace BK283 := kb_ BK283 hb; replace HB := hb_ HB hb
          (try clear hb)
          (try clear hb2)
          (try clear hk)
          (try clear hi)
          refine hK.out _ _ ⟨(blk_cell BK282.out 0).trans rfl, (blk_cell BK282.out 1).trans rfl, (blk_cell BK282.out 2).trans rfl, (blk_cell BK283.out 0).trans rfl, (blk_cell BK283.out 1).trans rfl, (blk_cell BK283.out 2).trans rfl, bc_ HB.out hw284_0, bc_ HB.out hw284_1, bc_ HB.out hw284_2, bc_ HB.out hw284_3, bc_ HB.out hw284_4, bc_ HB.out hw284_5, bc_ HB.out hw284_6, bc_ HB.out hw284_7, bc_ HB.out hw284_8, bc_ HB.out hw288_0, bc_ HB.out hw288_1, bc_ HB.out hw288_2, bc_ HB.out hw288_3, bc_ HB.out hw288_4, bc_ HB.out hw288_5, bc_ HB.out hw288_6, bc_ HB.out hw288_7, bc_ HB.out hw288_8⟩ (fun hHeld => ?_)
          clear hK K
          refine nm_ 38 (h := ?_)
          refine pa_ 15 39 (bm 41 0xffff) HT_ (h := ?_)
          refine pa_ 16 40 (bm 41 0x1ffff) HT_ (h := ?_)
          refine pa_ 17 41 (bm 41 0x3ffff) HT_ (h := ?_)
          refine pa_ 18 42 (bm 41 0x7ffff) HT_ (h := ?_)
          refine pa_ 21 45 (bm 41 0x27ffff) HT_ (h := ?_)
          refine pa_ 22 46 (bm 41 0x67ffff) HT_ (h := ?_)
          refine pa_ 23 47 (bm 41 0xe7ffff) HT_ (h := ?_)
          refine pa_ 24 48 (bm 41 0x1e7ffff) HT_ (h := ?_)
          refine pa_ 25 49 (bm 41 0x3e7ffff) HT_ (h := ?_)
          refine take_ (i := 19) (N := some 43) (v := ?_) (a' := ?_) (bm 41 0x3efffff) rfl rfl (take_ofW HT_.out HW_.out (by kernel_rfl)) (fun _ _ _ h => h) (Or.inl ⟨by rfl, ?_⟩) hHeld ?_ ?_
          rotate_left
          ·
           rintro w' ⟨s0, s1, s2, s3, s4, s5, s6, s7, s8, s9, s10, s11, s12, s13, s14, s15, s16, s17, s18, s19, s20, s21, s22, s23⟩
           go_simp
           with_reducible rfl
          rotate_left
          ·
           simp only [Act.put, sbA, sbB, sbC, i64_w, i32_w]
           rfl
          refine pa_ 20 44 (bm 41 0x3ffffff) HT_ (h := ?_)
          refine take_ (i := 26) (N := some 50) (v := ?_) (a' := ?_) (bm 41 0x7ffffff) rfl rfl (take_ofW HT_.out HW_.out (by kernel_rfl)) (fun _ _ _ h => h) (Or.inl ⟨by rfl, ?_⟩) hHeld ?_ ?_
          rotate_left
          ·
           rintro w' ⟨s0, s1, s2, s3, s4, s5, s6, s7, s8, s9, s10, s11, s12, s13, s14, s15, s16, s17, s18, s19, s20, s21, s22, s23⟩
           go_simp
           with_reducible rfl
          rotate_left
          ·
           simp only [Act.put, sbA, sbB, sbC, i64_w, i32_w]
           rfl
          refine pa_ 27 51 (bm 41 0xfffffff) HT_ (h := ?_)
          refine pa_ 28 52 (bm 41 0x1fffffff) HT_ (h := ?_)
          refine pa_ 29 53 (bm 41 0x3fffffff) HT_ (h := ?_)
          refine pz_ 30 54 (bm 41 0x7fffffff) HT_ (h := ?_)
          refine pz_ 31 55 (bm 41 0xffffffff) HT_ (h := ?_)
          refine pz_ 32 56 (bm 41 0x1ffffffff) HT_ (h := ?_)
          refine pz_ 33 57 (bm 41 0x3ffffffff) HT_ (h := ?_)
          refine pz_ 34 58 (bm 41 0x7ffffffff) HT_ (h := ?_)
          refine pz_ 35 59 (bm 41 0xfffffffff) HT_ (h := ?_)
          refine pz_ 36 60 (bm 41 0x1fffffffff) HT_ (h := ?_)
          refine pz_ 37 61 (bm 41 0x3fffffffff) HT_ (h := ?_)
          refine pz_ 38 62 (bm 41 0x7fffffffff) HT_ (h := ?_)
          refine pz_ 39 63 (bm 41 0xffffffffff) HT_ (h := ?_)
          refine pa_ 40 64 (bm 41 0x1ffffffffff) HT_ (h := ?_)
          refine done_ (done_of HT_.out (by kernel_rfl)) ?_
          try go_wp2
          go_meet
          case rel => exact ⟨_, (true), (by rfl), H', ⟨by have := HK1.out; omega⟩, ⟨HO273.out⟩, ⟨HO279.out⟩, ⟨BK282.out⟩, ⟨BK283.out⟩, ⟨HB.out⟩⟩
        ·
         replace c26 := Bool.eq_false_iff.mpr c26
         subst c26
         have H1 : (remontoirlaw18_right.j1 k1 l0 x3_1 true) = some r := by rw [if_neg (show ¬ (false = true) by decide)] at H; exact H
         clear H
         have H := H1
         clear H1
         have H' := Aside0.mk H
         clear H
         try go_wp2
         have n0_ : Aside0 (Kd.V (Kd.int .i64) 3 ((((((w12.setCell ⟨gb282, 0, none⟩ (.slice Ao13 t271.length co13)).setCell ⟨gb282, 1, none⟩ (.int .i64 t274)).setCell ⟨gb282, 2, none⟩ (.int .i64 t275)).setCell ⟨gb283, 0, none⟩ (.slice Ao17 t277.length co17)).setCell ⟨gb283, 1, none⟩ (.int .i64 t280)).setCell ⟨gb283, 2, none⟩ (.int .i64 t281)) w.heap.size (fun k_ => k_ ≠ gb282 ∧ k_ ≠ gb283) (.slice Ao13 t271.length co13) t271) := ⟨by exact Kd.V_mono (vf3_ (vf3_ (Kd.V_mono (Kd.V_mono HO273.out (fun k_ hk => (⟨hk, hk.1⟩ : _ ∧ k_ ≠ gb282))) (fun k_ hk => (⟨hk, hk.1.2⟩ : _ ∧ k_ ≠ gb283))) (fun _ hk => hk.1.2)) (fun _ hk => hk.2)) (fun _ hk => ⟨hk.1.1.1, hk.1.1.2⟩)⟩
         have n1_ : Aside0 (Kd.V (Kd.int .i64) 3 ((((((w12.setCell ⟨gb282, 0, none⟩ (.slice Ao13 t271.length co13)).setCell ⟨gb282, 1, none⟩ (.int .i64 t274)).setCell ⟨gb282, 2, none⟩ (.int .i64 t275)).setCell ⟨gb283, 0, none⟩ (.slice Ao17 t277.length co17)).setCell ⟨gb283, 1, none⟩ (.int .i64 t280)).setCell ⟨gb283, 2, none⟩ (.int .i64 t281)) w.heap.size (fun k_ => k_ ≠ gb282 ∧ k_ ≠ gb283) (.slice Ao17 t277.length co17) t277) := ⟨by exact Kd.V_mono (vf3_ (vf3_ (Kd.V_mono (Kd.V_mono HO279.out (fun k_ hk => (⟨hk, hk.1⟩ : _ ∧ k_ ≠ gb282))) (fun k_ hk => (⟨hk, hk.1.2⟩ : _ ∧ k_ ≠ gb283))) (fun _ hk => hk.1.2)) (fun _ hk => hk.2)) (fun _ hk => ⟨hk.1.1.1, hk.1.1.2⟩)⟩
         have n2_ : Aside0 (((((((w12.setCell ⟨gb282, 0, none⟩ (.slice Ao13 t271.length co13)).setCell ⟨gb282, 1, none⟩ (.int .i64 t274)).setCell ⟨gb282, 2, none⟩ (.int .i64 t275)).setCell ⟨gb283, 0, none⟩ (.slice Ao17 t277.length co17)).setCell ⟨gb283, 1, none⟩ (.int .i64 t280)).setCell ⟨gb283, 2, none⟩ (.int .i64 t281)).heap[gb282]? = some (.cells #[.slice Ao13 t271.length co13, .int .i64 t274, .int .i64 t275] 30 (0, 0))) := ⟨by refine blk_far ?_ NB282_283.out _; refine blk_far ?_ NB282_283.out _; refine blk_far ?_ NB282_283.out _; exact bp3_ BK282.out⟩
         have n3_ : Aside0 (((((((w12.setCell ⟨gb282, 0, none⟩ (.slice Ao13 t271.length co13)).setCell ⟨gb282, 1, none⟩ (.int .i64 t274)).setCell ⟨gb282, 2, none⟩ (.int .i64 t275)).setCell ⟨gb283, 0, none⟩ (.slice Ao17 t277.length co17)).setCell ⟨gb283, 1, none⟩ (.int .i64 t280)).setCell ⟨gb283, 2, none⟩ (.int .i64 t281)).heap[gb283]? = some (.cells #[.slice Ao17 t277.length co17, .int .i64 t280, .int .i64 t281] 30 (0, 0))) := ⟨by refine blk_put (cs := #[.slice Ao17 t277.length co17, .int .i64 t280, .int .i64 0]) ?_ 2 _ rfl; refine blk_put (cs := #[.slice Ao17 t277.length co17, .int .i64 0, .int .i64 0]) ?_ 1 _ rfl; refine blk_put (cs := #[.slice none 0 0, .int .i64 0, .int .i64 0]) ?_ 0 _ rfl; refine blk_far ?_ NB283_282.out _; refine blk_far ?_ NB283_282.out _; refine blk_far ?_ NB283_282.out _; exact BK283.out⟩
         have n4_ : Aside0 (Below w.heap.size w ((((((w12.setCell ⟨gb282, 0, none⟩ (.slice Ao13 t271.length co13)).setCell ⟨gb282, 1, none⟩ (.int .i64 t274)).setCell ⟨gb282, 2, none⟩ (.int .i64 t275)).setCell ⟨gb283, 0, none⟩ (.slice Ao17 t277.length co17)).setCell ⟨gb283, 1, none⟩ (.int .i64 t280)).setCell ⟨gb283, 2, none⟩ (.int .i64 t281))) := ⟨by repeat ((with_reducible first | exact HB.out | refine below_set ?_ GE282.out | refine below_set ?_ GE283.out))⟩
         (try clear HO273)
         (try clear HO279)
         (try clear BK282)
         (try clear BK283)
         (try clear HB)
         generalize ((((((w12.setCell ⟨gb282, 0, none⟩ (.slice Ao13 t271.length co13)).setCell ⟨gb282, 1, none⟩ (.int .i64 t274)).setCell ⟨gb282, 2, none⟩ (.int .i64 t275)).setCell ⟨gb283, 0, none⟩ (.slice Ao17 t277.length co17)).setCell ⟨gb283, 1, none⟩ (.int .i64 t280)).setCell ⟨gb283, 2, none⟩ (.int .i64 t281)) = w38 at n0_ n1_ n2_ n3_ n4_ ⊢
         have HO273 := n0_
         have HO279 := n1_
         have BK282 := n2_
         have BK283 := n3_
         have HB := n4_
         clear n0_ n1_ n2_ n3_ n4_
         have n0_ := Aside0.mk (Kd.V_drew HO273.out)
         have n1_ := Aside0.mk (Kd.V_drew HO279.out)
         have n2_ := Aside0.mk (blk_drew BK282.out)
         have n3_ := Aside0.mk (blk_drew BK283.out)
         have n4_ := Aside0.mk (below_drew1 HB.out)
         clear HO273 HO279 BK282 BK283 HB; have HO273 := n0_; have HO279 := n1_; have BK282 := n2_; have BK283 := n3_; have HB := n4_; clear n0_ n1_ n2_ n3_ n4_
         have p284 : 0 ≤ (x3_1 : Int) := of_decide_eq_true (by (with_reducible assumption))
         have q284 : x3_1 < (l0.length : Int) := of_decide_eq_true (by (with_reducible assumption))
         obtain ⟨ad284, A284_3, c284_3, A284_6, c284_6, e284, hx284_0, hx284_1, hx284_2, hx284_3, hx284_4, hx284_5, hx284_6, hx284_7, hx284_8, hl284_3, hi284_3, hl284_6, hi284_6⟩ := at_T76 HR0.out x3_1 p284 q284
         have hw284_8 := hx284_8
         have hw284_7 := hx284_7
         have hw284_6 := hx284_6
         have hw284_5 := hx284_5
         have hw284_4 := hx284_4
         have hw284_3 := hx284_3
         have hw284_2 := hx284_2
         have hw284_1 := hx284_1
         have hw284_0 := hx284_0
         obtain rfl : ad270 = ad284 := (by injection e284)
         replace hx284_0 := bc_ HB.out hx284_0
         replace hx284_1 := bc_ HB.out hx284_1
         replace hx284_2 := bc_ HB.out hx284_2
         replace hx284_3 := bc_ HB.out hx284_3
         replace hx284_4 := bc_ HB.out hx284_4
         replace hx284_5 := bc_ HB.out hx284_5
         replace hx284_6 := bc_ HB.out hx284_6
         replace hx284_7 := bc_ HB.out hx284_7
         replace hx284_8 := bc_ HB.out hx284_8
         have HR284_3 := Aside0.mk hi284_3
         have HC284_3 := Aside0.mk hl284_3
         clear hi284_3 hl284_3
         have HR284_6 := Aside0.mk hi284_6
         have HC284_6 := Aside0.mk hl284_6
         clear hi284_6 hl284_6
         replace p284 := eq_true p284
         replace q284 := eq_true q284
         refine start_ (n := 41) (S := fun w' => w'.cell? ⟨gb282, 0, none⟩ = some (.slice Ao13 t271.length co13) ∧ w'.cell? ⟨gb282, 1, none⟩ = some (.int .i64 t274) ∧ w'.cell? ⟨gb282, 2, none⟩ = some (.int .i64 t275) ∧ w'.cell? ⟨gb283, 0, none⟩ = some (.slice Ao17 t277.length co17) ∧ w'.cell? ⟨gb283, 1, none⟩ = some (.int .i64 t280) ∧ w'.cell? ⟨gb283, 2, none⟩ = some (.int .i64 t281) ∧ he9_ w' (ad270.add ((x3_1).toNat * 9)) (.int .i64 ((rd_T76 l0 x3_1).f0.f0)) (.int .i64 ((rd_T76 l0 x3_1).f0.f1)) (.int .i64 ((rd_T76 l0 x3_1).f0.f2)) (.slice A284_3 ((rd_T76 l0 x3_1).f1.f0).length c284_3) (.int .i64 ((rd_T76 l0 x3_1).f1.f1)) (.int .i64 ((rd_T76 l0 x3_1).f1.f2)) (.slice A284_6 ((rd_T76 l0 x3_1).f2.f0).length c284_6) (.int .i64 ((rd_T76 l0 x3_1).f2.f1)) (.int .i64 ((rd_T76 l0 x3_1).f2.f2))) (ds := []) #[false, false, false, false, false, false, false, false, false, false, false, false, false, false, false, false, false, false, false, false, false, false, false, false, false, false, false, false, false, false, false, false, false, false, false, false, false, false, false, false, false] (by kernel_rfl) rfl rfl ⟨(blk_cell BK282.out 0).trans rfl, (blk_cell BK282.out 1).trans rfl, (blk_cell BK282.out 2).trans rfl, (blk_cell BK283.out 0).trans rfl, (blk_cell BK283.out 1).trans rfl, (blk_cell BK283.out 2).trans rfl, (bc_ HB.out hw284_0 :), (bc_ HB.out hw284_1 :), (bc_ HB.out hw284_2 :), (bc_ HB.out hw284_3 :), (bc_ HB.out hw284_4 :), (bc_ HB.out hw284_5 :), (bc_ HB.out hw284_6 :), (bc_ HB.out hw284_7 :), (bc_ HB.out hw284_8 :)⟩ (fun hHeld => ?_); refine with_tabW remontoirlaw18_right.tab5 remontoirlaw18_right.bits5 (fun HT_ HW_ => ?_)
         generalize w38.drew = w39 at HO273 HO279 BK282 BK283 HB HR284_3 HR284_6 hx284_0 hx284_1 hx284_2 hx284_3 hx284_4 hx284_5 hx284_6 hx284_7 hx284_8 hHeld ⊢
         refine pa_ 0 24 (bm 41 0x1) HT_ (h := ?_)
         refine pa_ 1 25 (bm 41 0x3) HT_ (h := ?_)
         refine pa_ 2 26 (bm 41 0x7) HT_ (h := ?_)
         refine pa_ 3 27 (bm 41 0xf) HT_ (h := ?_)
         refine take_ (i := 4) (N := some 28) (v := ?_) (a' := ?_) (bm 41 0x1f) rfl rfl (take_ofW HT_.out HW_.out (by kernel_rfl)) (fun _ _ _ h => h) (Or.inl ⟨by rfl, ?_⟩) hHeld ?_ ?_
         rotate_left
         ·
          rintro w' ⟨s0, s1, s2, s3, s4, s5, s6, s7, s8, s9, s10, s11, s12, s13, s14⟩
          go_simp
          with_reducible rfl
         rotate_left
         ·
          simp only [Act.put, sbA, sbB, sbC, i64_w, i32_w]
          rfl
         refine one_ (i := 5) (N := some 29) (bm 41 0x3f) rfl rfl (one_of HT_.out (by kernel_rfl)) (by decide) (fun K hK => ?_)
         refine goes_ Try.func45 (by kernel_rfl) rfl #[.agg #[.int .i64 ((rd_T76 l0 x3_1).f0.f0), .int .i64 ((rd_T76 l0 x3_1).f0.f1), .int .i64 ((rd_T76 l0 x3_1).f0.f2)]] (by rfl) rfl rfl (by (try simp only [List.map_toArray, List.map_cons, List.map_nil]); rfl) ?_
         with_reducible refine (remontoirref18_May.calls ((rd_T76 l0 x3_1).f0.f0) ((rd_T76 l0 x3_1).f0.f1) ((rd_T76 l0 x3_1).f0.f2) true _ A21.out).mono ?_
         rintro e w40 ⟨rfl, hb⟩
         refine ⟨_, rfl, ?_⟩
         replace HO273 := vb_ HO273 hb; replace HO279 := vb_ HO279 hb; replace BK282 := kb_ BK282 hb; replace BK283 := kb_ BK283 hb; replace HB := hb_ HB hb
         (try clear hb)
         (try clear hb2)
         (try clear hk)
         (try clear hi)
         refine hK.out _ _ ⟨(blk_cell BK282.out 0).trans rfl, (blk_cell BK282.out 1).trans rfl, (blk_cell BK282.out 2).trans rfl, (blk_cell BK283.out 0).trans rfl, (blk_cell BK283.out 1).trans rfl, (blk_cell BK283.out 2).trans rfl, bc_ HB.out hw284_0, bc_ HB.out hw284_1, bc_ HB.out hw284_2, bc_ HB.out hw284_3, bc_ HB.out hw284_4, bc_ HB.out hw284_5, bc_ HB.out hw284_6, bc_ HB.out hw284_7, bc_ HB.out hw284_8⟩ (fun hHeld => ?_)
         clear hK K
         refine nm_ 29 (h := ?_)
         refine pa_ 6 30 (bm 41 0x7f) HT_ (h := ?_)
         refine pa_ 7 31 (bm 41 0xff) HT_ (h := ?_)
         refine take_ (i := 8) (N := some 32) (v := ?_) (a' := ?_) (bm 41 0x1ff) rfl rfl (take_ofW HT_.out HW_.out (by kernel_rfl)) (fun _ _ _ h => h) (Or.inl ⟨by rfl, ?_⟩) hHeld ?_ ?_
         rotate_left
         ·
          rintro w' ⟨s0, s1, s2, s3, s4, s5, s6, s7, s8, s9, s10, s11, s12, s13, s14⟩
          go_simp
          with_reducible rfl
         rotate_left
         ·
          simp only [Act.put, sbA, sbB, sbC, i64_w, i32_w]
          rfl
         refine one_ (i := 9) (N := some 33) (bm 41 0x3ff) rfl rfl (one_of HT_.out (by kernel_rfl)) (by decide) (fun K hK => ?_)
         refine goes_ Try.func14 (by kernel_rfl) rfl #[.agg #[.slice Ao13 t271.length co13, .int .i64 t274, .int .i64 t275]] (by rfl) rfl rfl (by (try simp only [List.map_toArray, List.map_cons, List.map_nil]); rfl) ?_
         with_reducible refine (remontoirref03_Right.calls _ _ t271 t274 t275 true _ ?side1 ?side2 A23.out).mono ?_
         (case side1 => repeat ((exact (Kd.V_reads' HO273.out).2.2)))
         (case side2 => exact (Kd.V_reads' HO273.out).2.1)
         rintro e w41 ⟨rfl, hb⟩
         refine ⟨_, rfl, ?_⟩
         replace HO273 := vb_ HO273 hb; replace HO279 := vb_ HO279 hb; replace BK282 := kb_ BK282 hb; replace BK283 := kb_ BK283 hb; replace HB := hb_ HB hb
         (try clear hb)
         (try clear hb2)
         (try clear hk)
         (try clear hi)
         refine hK.out _ _ ⟨(blk_cell BK282.out 0).trans rfl, (blk_cell BK282.out 1).trans rfl, (blk_cell BK282.out 2).trans rfl, (blk_cell BK283.out 0).trans rfl, (blk_cell BK283.out 1).trans rfl, (blk_cell BK283.out 2).trans rfl, bc_ HB.out hw284_0, bc_ HB.out hw284_1, bc_ HB.out hw284_2, bc_ HB.out hw284_3, bc_ HB.out hw284_4, bc_ HB.out hw284_5, bc_ HB.out hw284_6, bc_ HB.out hw284_7, bc_ HB.out hw284_8⟩ (fun hHeld => ?_)
         clear hK K
         refine nm_ 33 (h := ?_)
         refine pa_ 10 34 (bm 41 0x7ff) HT_ (h := ?_)
         refine pa_ 11 35 (bm 41 0xfff) HT_ (h := ?_)
         refine pa_ 12 36 (bm 41 0x1fff) HT_ (h := ?_)
         refine take_ (i := 13) (N := some 37) (v := ?_) (a' := ?_) (bm 41 0x3fff) rfl rfl (take_ofW HT_.out HW_.out (by kernel_rfl)) (fun _ _ _ h => h) (Or.inl ⟨by rfl, ?_⟩) hHeld ?_ ?_
         rotate_left
         ·
          rintro w' ⟨s0, s1, s2, s3, s4, s5, s6, s7, s8, s9, s10, s11, s12, s13, s14⟩
          go_simp
          with_reducible rfl
         rotate_left
         ·
          simp only [Act.put, sbA, sbB, sbC, i64_w, i32_w]
          rfl
         refine one_ (i := 14) (N := some 38) (bm 41 0x7fff) rfl rfl (one_of HT_.out (by kernel_rfl)) (by decide) (fun K hK => ?_)
         refine goes_ Try.func14 (by kernel_rfl) rfl #[.agg #[.slice Ao17 t277.length co17, .int .i64 t280, .int .i64 t281]] (by rfl) rfl rfl (by (try simp only [List.map_toArray, List.map_cons, List.map_nil]); rfl) ?_
         with_reducible refine (remontoirref03_Right.calls _ _ t277 t280 t281 false _ ?side1 ?side2 A25.out).mono ?_
         (case side1 => repeat ((exact (Kd.V_reads' HO279.out).2.2)))
         (case side2 => exact (Kd.V_reads' HO279.out).2.1)
         rintro e w42 ⟨rfl, hb⟩
         refine ⟨_, rfl, ?_⟩
         replace HO273 := vb_ HO273 hb; replace HO279 := vb_ HO279 hb; replace BK282 := kb_ BK282 hb; replace BK283 := kb_ BK283 hb; replace HB := hb_ HB hb
         (try clear hb)
         (try clear hb2)
         (try clear hk)
         (try clear hi)
         refine hK.out _ _ ⟨(blk_cell BK282.out 0).trans rfl, (blk_cell BK282.out 1).trans rfl, (blk_cell BK282.out 2).trans rfl, (blk_cell BK283.out 0).trans rfl, (blk_cell BK283.out 1).trans rfl, (blk_cell BK283.out 2).trans rfl, bc_ HB.out hw284_0, bc_ HB.out hw284_1, bc_ HB.out hw284_2, bc_ HB.out hw284_3, bc_ HB.out hw284_4, bc_ HB.out hw284_5, bc_ HB.out hw284_6, bc_ HB.out hw284_7, bc_ HB.out hw284_8⟩ (fun hHeld => ?_)
         clear hK K
         refine nm_ 38 (h := ?_)
         refine pa_ 15 39 (bm 41 0xffff) HT_ (h := ?_)
         refine pa_ 16 40 (bm 41 0x1ffff) HT_ (h := ?_)
         refine pa_ 17 41 (bm 41 0x3ffff) HT_ (h := ?_)
         refine pz_ 18 42 (bm 41 0x7ffff) HT_ (h := ?_)
         refine pz_ 19 43 (bm 41 0xfffff) HT_ (h := ?_)
         refine pz_ 20 44 (bm 41 0x1fffff) HT_ (h := ?_)
         refine pz_ 21 45 (bm 41 0x3fffff) HT_ (h := ?_)
         refine pz_ 22 46 (bm 41 0x7fffff) HT_ (h := ?_)
         refine pz_ 23 47 (bm 41 0xffffff) HT_ (h := ?_)
         refine pz_ 24 48 (bm 41 0x1ffffff) HT_ (h := ?_)
         refine pz_ 25 49 (bm 41 0x3ffffff) HT_ (h := ?_)
         refine pz_ 26 50 (bm 41 0x7ffffff) HT_ (h := ?_)
         refine pz_ 27 51 (bm 41 0xfffffff) HT_ (h := ?_)
         refine pa_ 28 52 (bm 41 0x1fffffff) HT_ (h := ?_)
         refine pa_ 29 53 (bm 41 0x3fffffff) HT_ (h := ?_)
         refine pz_ 30 54 (bm 41 0x7fffffff) HT_ (h := ?_)
         refine pz_ 31 55 (bm 41 0xffffffff) HT_ (h := ?_)
         refine pz_ 32 56 (bm 41 0x1ffffffff) HT_ (h := ?_)
         refine pz_ 33 57 (bm 41 0x3ffffffff) HT_ (h := ?_)
         refine pz_ 34 58 (bm 41 0x7ffffffff) HT_ (h := ?_)
         refine pz_ 35 59 (bm 41 0xfffffffff) HT_ (h := ?_)
         refine pz_ 36 60 (bm 41 0x1fffffffff) HT_ (h := ?_)
         refine pz_ 37 61 (bm 41 0x3fffffffff) HT_ (h := ?_)
         refine pz_ 38 62 (bm 41 0x7fffffffff) HT_ (h := ?_)
         refine pz_ 39 63 (bm 41 0xffffffffff) HT_ (h := ?_)
         refine pa_ 40 64 (bm 41 0x1ffffffffff) HT_ (h := ?_)
         refine done_ (done_of HT_.out (by kernel_rfl)) ?_
         try go_wp2
         go_meet
         case rel => exact ⟨_, (true), (by rfl), H', ⟨by have := HK1.out; omega⟩, ⟨HO273.out⟩, ⟨HO279.out⟩, ⟨BK282.out⟩, ⟨BK283.out⟩, ⟨HB.out⟩⟩
       ·
        replace c24 := Bool.eq_false_iff.mpr c24
        subst c24
        have H1 : (remontoirlaw18_right.j1 k1 l0 x3_1 true) = some r := by rw [if_neg (show ¬ (false = true) by decide)] at H; exact H
        clear H
        have H := H1
        clear H1
        have H' := Aside0.mk H
        clear H
        try go_wp2
        have n0_ : Aside0 (Kd.V (Kd.int .i64) 3 ((((((w12.setCell ⟨gb282, 0, none⟩ (.slice Ao13 t271.length co13)).setCell ⟨gb282, 1, none⟩ (.int .i64 t274)).setCell ⟨gb282, 2, none⟩ (.int .i64 t275)).setCell ⟨gb283, 0, none⟩ (.slice Ao17 t277.length co17)).setCell ⟨gb283, 1, none⟩ (.int .i64 t280)).setCell ⟨gb283, 2, none⟩ (.int .i64 t281)) w.heap.size (fun k_ => k_ ≠ gb282 ∧ k_ ≠ gb283) (.slice Ao13 t271.length co13) t271) := ⟨by exact Kd.V_mono (vf3_ (vf3_ (Kd.V_mono (Kd.V_mono HO273.out (fun k_ hk => (⟨hk, hk.1⟩ : _ ∧ k_ ≠ gb282))) (fun k_ hk => (⟨hk, hk.1.2⟩ : _ ∧ k_ ≠ gb283))) (fun _ hk => hk.1.2)) (fun _ hk => hk.2)) (fun _ hk => ⟨hk.1.1.1, hk.1.1.2⟩)⟩
        have n1_ : Aside0 (Kd.V (Kd.int .i64) 3 ((((((w12.setCell ⟨gb282, 0, none⟩ (.slice Ao13 t271.length co13)).setCell ⟨gb282, 1, none⟩ (.int .i64 t274)).setCell ⟨gb282, 2, none⟩ (.int .i64 t275)).setCell ⟨gb283, 0, none⟩ (.slice Ao17 t277.length co17)).setCell ⟨gb283, 1, none⟩ (.int .i64 t280)).setCell ⟨gb283, 2, none⟩ (.int .i64 t281)) w.heap.size (fun k_ => k_ ≠ gb282 ∧ k_ ≠ gb283) (.slice Ao17 t277.length co17) t277) := ⟨by exact Kd.V_mono (vf3_ (vf3_ (Kd.V_mono (Kd.V_mono HO279.out (fun k_ hk => (⟨hk, hk.1⟩ : _ ∧ k_ ≠ gb282))) (fun k_ hk => (⟨hk, hk.1.2⟩ : _ ∧ k_ ≠ gb283))) (fun _ hk => hk.1.2)) (fun _ hk => hk.2)) (fun _ hk => ⟨hk.1.1.1, hk.1.1.2⟩)⟩
        have n2_ : Aside0 (((((((w12.setCell ⟨gb282, 0, none⟩ (.slice Ao13 t271.length co13)).setCell ⟨gb282, 1, none⟩ (.int .i64 t274)).setCell ⟨gb282, 2, none⟩ (.int .i64 t275)).setCell ⟨gb283, 0, none⟩ (.slice Ao17 t277.length co17)).setCell ⟨gb283, 1, none⟩ (.int .i64 t280)).setCell ⟨gb283, 2, none⟩ (.int .i64 t281)).heap[gb282]? = some (.cells #[.slice Ao13 t271.length co13, .int .i64 t274, .int .i64 t275] 30 (0, 0))) := ⟨by refine blk_far ?_ NB282_283.out _; refine blk_far ?_ NB282_283.out _; refine blk_far ?_ NB282_283.out _; exact bp3_ BK282.out⟩
        have n3_ : Aside0 (((((((w12.setCell ⟨gb282, 0, none⟩ (.slice Ao13 t271.length co13)).setCell ⟨gb282, 1, none⟩ (.int .i64 t274)).setCell ⟨gb282, 2, none⟩ (.int .i64 t275)).setCell ⟨gb283, 0, none⟩ (.slice Ao17 t277.length co17)).setCell ⟨gb283, 1, none⟩ (.int .i64 t280)).setCell ⟨gb283, 2, none⟩ (.int .i64 t281)).heap[gb283]? = some (.cells #[.slice Ao17 t277.length co17, .int .i64 t280, .int .i64 t281] 30 (0, 0))) := ⟨by refine blk_put (cs := #[.slice Ao17 t277.length co17, .int .i64 t280, .int .i64 0]) ?_ 2 _ rfl; refine blk_put (cs := #[.slice Ao17 t277.length co17, .int .i64 0, .int .i64 0]) ?_ 1 _ rfl; refine blk_put (cs := #[.slice none 0 0, .int .i64 0, .int .i64 0]) ?_ 0 _ rfl; refine blk_far ?_ NB283_282.out _; refine blk_far ?_ NB283_282.out _; refine blk_far ?_ NB283_282.out _; exact BK283.out⟩
        have n4_ : Aside0 (Below w.heap.size w ((((((w12.setCell ⟨gb282, 0, none⟩ (.slice Ao13 t271.length co13)).setCell ⟨gb282, 1, none⟩ (.int .i64 t274)).setCell ⟨gb282, 2, none⟩ (.int .i64 t275)).setCell ⟨gb283, 0, none⟩ (.slice Ao17 t277.length co17)).setCell ⟨gb283, 1, none⟩ (.int .i64 t280)).setCell ⟨gb283, 2, none⟩ (.int .i64 t281))) := ⟨by repeat ((with_reducible first | exact HB.out | refine below_set ?_ GE282.out | refine below_set ?_ GE283.out))⟩
        (try clear HO273)
        (try clear HO279)
        (try clear BK282)
        (try clear BK283)
        (try clear HB)
        generalize ((((((w12.setCell ⟨gb282, 0, none⟩ (.slice Ao13 t271.length co13)).setCell ⟨gb282, 1, none⟩ (.int .i64 t274)).setCell ⟨gb282, 2, none⟩ (.int .i64 t275)).setCell ⟨gb283, 0, none⟩ (.slice Ao17 t277.length co17)).setCell ⟨gb283, 1, none⟩ (.int .i64 t280)).setCell ⟨gb283, 2, none⟩ (.int .i64 t281)) = w43 at n0_ n1_ n2_ n3_ n4_ ⊢
        have HO273 := n0_
        have HO279 := n1_
        have BK282 := n2_
        have BK283 := n3_
        have HB := n4_
        clear n0_ n1_ n2_ n3_ n4_
        have n0_ := Aside0.mk (Kd.V_drew HO273.out)
        have n1_ := Aside0.mk (Kd.V_drew HO279.out)
        have n2_ := Aside0.mk (blk_drew BK282.out)
        have n3_ := Aside0.mk (blk_drew BK283.out)
        have n4_ := Aside0.mk (below_drew1 HB.out)
        clear HO273 HO279 BK282 BK283 HB; have HO273 := n0_; have HO279 := n1_; have BK282 := n2_; have BK283 := n3_; have HB := n4_; clear n0_ n1_ n2_ n3_ n4_
        have p284 : 0 ≤ (x3_1 : Int) := of_decide_eq_true (by (with_reducible assumption))
        have q284 : x3_1 < (l0.length : Int) := of_decide_eq_true (by (with_reducible assumption))
        obtain ⟨ad284, A284_3, c284_3, A284_6, c284_6, e284, hx284_0, hx284_1, hx284_2, hx284_3, hx284_4, hx284_5, hx284_6, hx284_7, hx284_8, hl284_3, hi284_3, hl284_6, hi284_6⟩ := at_T76 HR0.out x3_1 p284 q284
        have hw284_8 := hx284_8
        have hw284_7 := hx284_7
        have hw284_6 := hx284_6
        have hw284_5 := hx284_5
        have hw284_4 := hx284_4
        have hw284_3 := hx284_3
        have hw284_2 := hx284_2
        have hw284_1 := hx284_1
        have hw284_0 := hx284_0
        obtain rfl : ad270 = ad284 := (by injection e284)
        replace hx284_0 := bc_ HB.out hx284_0
        replace hx284_1 := bc_ HB.out hx284_1
        replace hx284_2 := bc_ HB.out hx284_2
        replace hx284_3 := bc_ HB.out hx284_3
        replace hx284_4 := bc_ HB.out hx284_4
        replace hx284_5 := bc_ HB.out hx284_5
        replace hx284_6 := bc_ HB.out hx284_6
        replace hx284_7 := bc_ HB.out hx284_7
        replace hx284_8 := bc_ HB.out hx284_8
        have HR284_3 := Aside0.mk hi284_3
        have HC284_3 := Aside0.mk hl284_3
        clear hi284_3 hl284_3
        have HR284_6 := Aside0.mk hi284_6
        have HC284_6 := Aside0.mk hl284_6
        clear hi284_6 hl284_6
        replace p284 := eq_true p284
        replace q284 := eq_true q284
        refine start_ (n := 41) (S := fun w' => w'.cell? ⟨gb282, 0, none⟩ = some (.slice Ao13 t271.length co13) ∧ w'.cell? ⟨gb282, 1, none⟩ = some (.int .i64 t274) ∧ w'.cell? ⟨gb282, 2, none⟩ = some (.int .i64 t275) ∧ he9_ w' (ad270.add ((x3_1).toNat * 9)) (.int .i64 ((rd_T76 l0 x3_1).f0.f0)) (.int .i64 ((rd_T76 l0 x3_1).f0.f1)) (.int .i64 ((rd_T76 l0 x3_1).f0.f2)) (.slice A284_3 ((rd_T76 l0 x3_1).f1.f0).length c284_3) (.int .i64 ((rd_T76 l0 x3_1).f1.f1)) (.int .i64 ((rd_T76 l0 x3_1).f1.f2)) (.slice A284_6 ((rd_T76 l0 x3_1).f2.f0).length c284_6) (.int .i64 ((rd_T76 l0 x3_1).f2.f1)) (.int .i64 ((rd_T76 l0 x3_1).f2.f2))) (ds := []) #[false, false, false, false, false, false, false, false, false, false, false, false, false, false, false, false, false, false, false, false, false, false, false, false, false, false, false, false, false, false, false, false, false, false, false, false, false, false, false, false, false] (by kernel_rfl) rfl rfl ⟨(blk_cell BK282.out 0).trans rfl, (blk_cell BK282.out 1).trans rfl, (blk_cell BK282.out 2).trans rfl, (bc_ HB.out hw284_0 :), (bc_ HB.out hw284_1 :), (bc_ HB.out hw284_2 :), (bc_ HB.out hw284_3 :), (bc_ HB.out hw284_4 :), (bc_ HB.out hw284_5 :), (bc_ HB.out hw284_6 :), (bc_ HB.out hw284_7 :), (bc_ HB.out hw284_8 :)⟩ (fun hHeld => ?_); refine with_tabW remontoirlaw18_right.tab5 remontoirlaw18_right.bits5 (fun HT_ HW_ => ?_)
        generalize w43.drew = w44 at HO273 HO279 BK282 BK283 HB HR284_3 HR284_6 hx284_0 hx284_1 hx284_2 hx284_3 hx284_4 hx284_5 hx284_6 hx284_7 hx284_8 hHeld ⊢
        refine pa_ 0 24 (bm 41 0x1) HT_ (h := ?_)
        refine pa_ 1 25 (bm 41 0x3) HT_ (h := ?_)
        refine pa_ 2 26 (bm 41 0x7) HT_ (h := ?_)
        refine pa_ 3 27 (bm 41 0xf) HT_ (h := ?_)
        refine take_ (i := 4) (N := some 28) (v := ?_) (a' := ?_) (bm 41 0x1f) rfl rfl (take_ofW HT_.out HW_.out (by kernel_rfl)) (fun _ _ _ h => h) (Or.inl ⟨by rfl, ?_⟩) hHeld ?_ ?_
        rotate_left
        ·
         rintro w' ⟨s0, s1, s2, s3, s4, s5, s6, s7, s8, s9, s10, s11⟩
         go_simp
         with_reducible rfl
        rotate_left
        ·
         simp only [Act.put, sbA, sbB, sbC, i64_w, i32_w]
         rfl
        refine one_ (i := 5) (N := some 29) (bm 41 0x3f) rfl rfl (one_of HT_.out (by kernel_rfl)) (by decide) (fun K hK => ?_)
        refine goes_ Try.func45 (by kernel_rfl) rfl #[.agg #[.int .i64 ((rd_T76 l0 x3_1).f0.f0), .int .i64 ((rd_T76 l0 x3_1).f0.f1), .int .i64 ((rd_T76 l0 x3_1).f0.f2)]] (by rfl) rfl rfl (by (try simp only [List.map_toArray, List.map_cons, List.map_nil]); rfl) ?_
        with_reducible refine (remontoirref18_May.calls ((rd_T76 l0 x3_1).f0.f0) ((rd_T76 l0 x3_1).f0.f1) ((rd_T76 l0 x3_1).f0.f2) true _ A21.out).mono ?_
        rintro e w45 ⟨rfl, hb⟩
        refine ⟨_, rfl, ?_⟩
        replace HO273 := vb_ HO273 hb; replace HO279 := vb_ HO279 hb; replace BK282 := kb_ BK282 hb; replace BK283 := kb_ BK283 hb; replace HB := hb_ HB hb
        (try clear hb)
        (try clear hb2)
        (try clear hk)
        (try clear hi)
        refine hK.out _ _ ⟨(blk_cell BK282.out 0).trans rfl, (blk_cell BK282.out 1).trans rfl, (blk_cell BK282.out 2).trans rfl, bc_ HB.out hw284_0, bc_ HB.out hw284_1, bc_ HB.out hw284_2, bc_ HB.out hw284_3, bc_ HB.out hw284_4, bc_ HB.out hw284_5, bc_ HB.out hw284_6, bc_ HB.out hw284_7, bc_ HB.out hw284_8⟩ (fun hHeld => ?_)
        clear hK K
        refine nm_ 29 (h := ?_)
        refine pa_ 6 30 (bm 41 0x7f) HT_ (h := ?_)
        refine pa_ 7 31 (bm 41 0xff) HT_ (h := ?_)
        refine take_ (i := 8) (N := some 32) (v := ?_) (a' := ?_) (bm 41 0x1ff) rfl rfl (take_ofW HT_.out HW_.out (by kernel_rfl)) (fun _ _ _ h => h) (Or.inl ⟨by rfl, ?_⟩) hHeld ?_ ?_
        rotate_left
        ·
         rintro w' ⟨s0, s1, s2, s3, s4, s5, s6, s7, s8, s9, s10, s11⟩
         go_simp
         with_reducible rfl
        rotate_left
        ·
         simp only [Act.put, sbA, sbB, sbC, i64_w, i32_w]
         rfl
        refine one_ (i := 9) (N := some 33) (bm 41 0x3ff) rfl rfl (one_of HT_.out (by kernel_rfl)) (by decide) (fun K hK => ?_)
        refine goes_ Try.func14 (by kernel_rfl) rfl #[.agg #[.slice Ao13 t271.length co13, .int .i64 t274, .int .i64 t275]] (by rfl) rfl rfl (by (try simp only [List.map_toArray, List.map_cons, List.map_nil]); rfl) ?_
        with_reducible refine (remontoirref03_Right.calls _ _ t271 t274 t275 false _ ?side1 ?side2 A23.out).mono ?_
        (case side1 => repeat ((exact (Kd.V_reads' HO273.out).2.2)))
        (case side2 => exact (Kd.V_reads' HO273.out).2.1)
        rintro e w46 ⟨rfl, hb⟩
        refine ⟨_, rfl, ?_⟩
        replace HO273 := vb_ HO273 hb; replace HO279 := vb_ HO279 hb; replace BK282 := kb_ BK282 hb; replace BK283 := kb_ BK283 hb; replace HB := hb_ HB hb
        (try clear hb)
        (try clear hb2)
        (try clear hk)
        (try clear hi)
        refine hK.out _ _ ⟨(blk_cell BK282.out 0).trans rfl, (blk_cell BK282.out 1).trans rfl, (blk_cell BK282.out 2).trans rfl, bc_ HB.out hw284_0, bc_ HB.out hw284_1, bc_ HB.out hw284_2, bc_ HB.out hw284_3, bc_ HB.out hw284_4, bc_ HB.out hw284_5, bc_ HB.out hw284_6, bc_ HB.out hw284_7, bc_ HB.out hw284_8⟩ (fun hHeld => ?_)
        clear hK K
        refine nm_ 33 (h := ?_)
        refine pa_ 10 34 (bm 41 0x7ff) HT_ (h := ?_)
        refine pa_ 11 35 (bm 41 0xfff) HT_ (h := ?_)
        refine pa_ 12 36 (bm 41 0x1fff) HT_ (h := ?_)
        refine pz_ 13 37 (bm 41 0x3fff) HT_ (h := ?_)
        refine pz_ 14 38 (bm 41 0x7fff) HT_ (h := ?_)
        refine pz_ 15 39 (bm 41 0xffff) HT_ (h := ?_)
        refine pa_ 16 40 (bm 41 0x1ffff) HT_ (h := ?_)
        refine pa_ 17 41 (bm 41 0x3ffff) HT_ (h := ?_)
        refine pz_ 18 42 (bm 41 0x7ffff) HT_ (h := ?_)
        refine pz_ 19 43 (bm 41 0xfffff) HT_ (h := ?_)
        refine pz_ 20 44 (bm 41 0x1fffff) HT_ (h := ?_)
        refine pz_ 21 45 (bm 41 0x3fffff) HT_ (h := ?_)
        refine pz_ 22 46 (bm 41 0x7fffff) HT_ (h := ?_)
        refine pz_ 23 47 (bm 41 0xffffff) HT_ (h := ?_)
        refine pz_ 24 48 (bm 41 0x1ffffff) HT_ (h := ?_)
        refine pz_ 25 49 (bm 41 0x3ffffff) HT_ (h := ?_)
        refine pz_ 26 50 (bm 41 0x7ffffff) HT_ (h := ?_)
        refine pz_ 27 51 (bm 41 0xfffffff) HT_ (h := ?_)
        refine pa_ 28 52 (bm 41 0x1fffffff) HT_ (h := ?_)
        refine pa_ 29 53 (bm 41 0x3fffffff) HT_ (h := ?_)
        refine pz_ 30 54 (bm 41 0x7fffffff) HT_ (h := ?_)
        refine pz_ 31 55 (bm 41 0xffffffff) HT_ (h := ?_)
        refine pz_ 32 56 (bm 41 0x1ffffffff) HT_ (h := ?_)
        refine pz_ 33 57 (bm 41 0x3ffffffff) HT_ (h := ?_)
        refine pz_ 34 58 (bm 41 0x7ffffffff) HT_ (h := ?_)
        refine pz_ 35 59 (bm 41 0xfffffffff) HT_ (h := ?_)
        refine pz_ 36 60 (bm 41 0x1fffffffff) HT_ (h := ?_)
        refine pz_ 37 61 (bm 41 0x3fffffffff) HT_ (h := ?_)
        refine pz_ 38 62 (bm 41 0x7fffffffff) HT_ (h := ?_)
        refine pz_ 39 63 (bm 41 0xffffffffff) HT_ (h := ?_)
        refine pa_ 40 64 (bm 41 0x1ffffffffff) HT_ (h := ?_)
        refine done_ (done_of HT_.out (by kernel_rfl)) ?_
        try go_wp2
        go_meet
        case rel => exact ⟨_, (true), (by rfl), H', ⟨by have := HK1.out; omega⟩, ⟨HO273.out⟩, ⟨HO279.out⟩, ⟨BK282.out⟩, ⟨BK283.out⟩, ⟨HB.out⟩⟩
      ·
       replace c22 := Bool.eq_false_iff.mpr c22
       subst c22
       have H1 : (remontoirlaw18_right.j1 k1 l0 x3_1 true) = some r := by rw [if_neg (show ¬ (false = true) by decide)] at H; exact H
       clear H
       have H := H1
       clear H1
       have H' := Aside0.mk H
       clear H
       try go_wp2
       have n0_ : Aside0 (Kd.V (Kd.int .i64) 3 ((((((w12.setCell ⟨gb282, 0, none⟩ (.slice Ao13 t271.length co13)).setCell ⟨gb282, 1, none⟩ (.int .i64 t274)).setCell ⟨gb282, 2, none⟩ (.int .i64 t275)).setCell ⟨gb283, 0, none⟩ (.slice Ao17 t277.length co17)).setCell ⟨gb283, 1, none⟩ (.int .i64 t280)).setCell ⟨gb283, 2, none⟩ (.int .i64 t281)) w.heap.size (fun k_ => k_ ≠ gb282 ∧ k_ ≠ gb283) (.slice Ao13 t271.length co13) t271) := ⟨by exact Kd.V_mono (vf3_ (vf3_ (Kd.V_mono (Kd.V_mono HO273.out (fun k_ hk => (⟨hk, hk.1⟩ : _ ∧ k_ ≠ gb282))) (fun k_ hk => (⟨hk, hk.1.2⟩ : _ ∧ k_ ≠ gb283))) (fun _ hk => hk.1.2)) (fun _ hk => hk.2)) (fun _ hk => ⟨hk.1.1.1, hk.1.1.2⟩)⟩
       have n1_ : Aside0 (Kd.V (Kd.int .i64) 3 ((((((w12.setCell ⟨gb282, 0, none⟩ (.slice Ao13 t271.length co13)).setCell ⟨gb282, 1, none⟩ (.int .i64 t274)).setCell ⟨gb282, 2, none⟩ (.int .i64 t275)).setCell ⟨gb283, 0, none⟩ (.slice Ao17 t277.length co17)).setCell ⟨gb283, 1, none⟩ (.int .i64 t280)).setCell ⟨gb283, 2, none⟩ (.int .i64 t281)) w.heap.size (fun k_ => k_ ≠ gb282 ∧ k_ ≠ gb283) (.slice Ao17 t277.length co17) t277) := ⟨by exact Kd.V_mono (vf3_ (vf3_ (Kd.V_mono (Kd.V_mono HO279.out (fun k_ hk => (⟨hk, hk.1⟩ : _ ∧ k_ ≠ gb282))) (fun k_ hk => (⟨hk, hk.1.2⟩ : _ ∧ k_ ≠ gb283))) (fun _ hk => hk.1.2)) (fun _ hk => hk.2)) (fun _ hk => ⟨hk.1.1.1, hk.1.1.2⟩)⟩
       have n2_ : Aside0 (((((((w12.setCell ⟨gb282, 0, none⟩ (.slice Ao13 t271.length co13)).setCell ⟨gb282, 1, none⟩ (.int .i64 t274)).setCell ⟨gb282, 2, none⟩ (.int .i64 t275)).setCell ⟨gb283, 0, none⟩ (.slice Ao17 t277.length co17)).setCell ⟨gb283, 1, none⟩ (.int .i64 t280)).setCell ⟨gb283, 2, none⟩ (.int .i64 t281)).heap[gb282]? = some (.cells #[.slice Ao13 t271.length co13, .int .i64 t274, .int .i64 t275] 30 (0, 0))) := ⟨by refine blk_far ?_ NB282_283.out _; refine blk_far ?_ NB282_283.out _; refine blk_far ?_ NB282_283.out _; exact bp3_ BK282.out⟩
       have n3_ : Aside0 (((((((w12.setCell ⟨gb282, 0, none⟩ (.slice Ao13 t271.length co13)).setCell ⟨gb282, 1, none⟩ (.int .i64 t274)).setCell ⟨gb282, 2, none⟩ (.int .i64 t275)).setCell ⟨gb283, 0, none⟩ (.slice Ao17 t277.length co17)).setCell ⟨gb283, 1, none⟩ (.int .i64 t280)).setCell ⟨gb283, 2, none⟩ (.int .i64 t281)).heap[gb283]? = some (.cells #[.slice Ao17 t277.length co17, .int .i64 t280, .int .i64 t281] 30 (0, 0))) := ⟨by refine blk_put (cs := #[.slice Ao17 t277.length co17, .int .i64 t280, .int .i64 0]) ?_ 2 _ rfl; refine blk_put (cs := #[.slice Ao17 t277.length co17, .int .i64 0, .int .i64 0]) ?_ 1 _ rfl; refine blk_put (cs := #[.slice none 0 0, .int .i64 0, .int .i64 0]) ?_ 0 _ rfl; refine blk_far ?_ NB283_282.out _; refine blk_far ?_ NB283_282.out _; refine blk_far ?_ NB283_282.out _; exact BK283.out⟩
       have n4_ : Aside0 (Below w.heap.size w ((((((w12.setCell ⟨gb282, 0, none⟩ (.slice Ao13 t271.length co13)).setCell ⟨gb282, 1, none⟩ (.int .i64 t274)).setCell ⟨gb282, 2, none⟩ (.int .i64 t275)).setCell ⟨gb283, 0, none⟩ (.slice Ao17 t277.length co17)).setCell ⟨gb283, 1, none⟩ (.int .i64 t280)).setCell ⟨gb283, 2, none⟩ (.int .i64 t281))) := ⟨by repeat ((with_reducible first | exact HB.out | refine below_set ?_ GE282.out | refine below_set ?_ GE283.out))⟩
       (try clear HO273)
       (try clear HO279)
       (try clear BK282)
       (try clear BK283)
       (try clear HB)
       generalize ((((((w12.setCell ⟨gb282, 0, none⟩ (.slice Ao13 t271.length co13)).setCell ⟨gb282, 1, none⟩ (.int .i64 t274)).setCell ⟨gb282, 2, none⟩ (.int .i64 t275)).setCell ⟨gb283, 0, none⟩ (.slice Ao17 t277.length co17)).setCell ⟨gb283, 1, none⟩ (.int .i64 t280)).setCell ⟨gb283, 2, none⟩ (.int .i64 t281)) = w47 at n0_ n1_ n2_ n3_ n4_ ⊢
       have HO273 := n0_
       have HO279 := n1_
       have BK282 := n2_
       have BK283 := n3_
       have HB := n4_
       clear n0_ n1_ n2_ n3_ n4_
       have n0_ := Aside0.mk (Kd.V_drew HO273.out)
       have n1_ := Aside0.mk (Kd.V_drew HO279.out)
       have n2_ := Aside0.mk (blk_drew BK282.out)
       have n3_ := Aside0.mk (blk_drew BK283.out)
       have n4_ := Aside0.mk (below_drew1 HB.out)
       clear HO273 HO279 BK282 BK283 HB; have HO273 := n0_; have HO279 := n1_; have BK282 := n2_; have BK283 := n3_; have HB := n4_; clear n0_ n1_ n2_ n3_ n4_
       have p284 : 0 ≤ (x3_1 : Int) := of_decide_eq_true (by (with_reducible assumption))
       have q284 : x3_1 < (l0.length : Int) := of_decide_eq_true (by (with_reducible assumption))
       obtain ⟨ad284, A284_3, c284_3, A284_6, c284_6, e284, hx284_0, hx284_1, hx284_2, hx284_3, hx284_4, hx284_5, hx284_6, hx284_7, hx284_8, hl284_3, hi284_3, hl284_6, hi284_6⟩ := at_T76 HR0.out x3_1 p284 q284
       have hw284_8 := hx284_8
       have hw284_7 := hx284_7
       have hw284_6 := hx284_6
       have hw284_5 := hx284_5
       have hw284_4 := hx284_4
       have hw284_3 := hx284_3
       have hw284_2 := hx284_2
       have hw284_1 := hx284_1
       have hw284_0 := hx284_0
       obtain rfl : ad270 = ad284 := (by injection e284)
       replace hx284_0 := bc_ HB.out hx284_0
       replace hx284_1 := bc_ HB.out hx284_1
       replace hx284_2 := bc_ HB.out hx284_2
       replace hx284_3 := bc_ HB.out hx284_3
       replace hx284_4 := bc_ HB.out hx284_4
       replace hx284_5 := bc_ HB.out hx284_5
       replace hx284_6 := bc_ HB.out hx284_6
       replace hx284_7 := bc_ HB.out hx284_7
       replace hx284_8 := bc_ HB.out hx284_8
       have HR284_3 := Aside0.mk hi284_3
       have HC284_3 := Aside0.mk hl284_3
       clear hi284_3 hl284_3
       have HR284_6 := Aside0.mk hi284_6
       have HC284_6 := Aside0.mk hl284_6
       clear hi284_6 hl284_6
       replace p284 := eq_true p284
       replace q284 := eq_true q284
       refine start_ (n := 41) (S := fun w' => he9_ w' (ad270.add ((x3_1).toNat * 9)) (.int .i64 ((rd_T76 l0 x3_1).f0.f0)) (.int .i64 ((rd_T76 l0 x3_1).f0.f1)) (.int .i64 ((rd_T76 l0 x3_1).f0.f2)) (.slice A284_3 ((rd_T76 l0 x3_1).f1.f0).length c284_3) (.int .i64 ((rd_T76 l0 x3_1).f1.f1)) (.int .i64 ((rd_T76 l0 x3_1).f1.f2)) (.slice A284_6 ((rd_T76 l0 x3_1).f2.f0).length c284_6) (.int .i64 ((rd_T76 l0 x3_1).f2.f1)) (.int .i64 ((rd_T76 l0 x3_1).f2.f2))) (ds := []) #[false, false, false, false, false, false, false, false, false, false, false, false, false, false, false, false, false, false, false, false, false, false, false, false, false, false, false, false, false, false, false, false, false, false, false, false, false, false, false, false, false] (by kernel_rfl) rfl rfl ⟨(bc_ HB.out hw284_0 :), (bc_ HB.out hw284_1 :), (bc_ HB.out hw284_2 :), (bc_ HB.out hw284_3 :), (bc_ HB.out hw284_4 :), (bc_ HB.out hw284_5 :), (bc_ HB.out hw284_6 :), (bc_ HB.out hw284_7 :), (bc_ HB.out hw284_8 :)⟩ (fun hHeld => ?_); refine with_tabW remontoirlaw18_right.tab5 remontoirlaw18_right.bits5 (fun HT_ HW_ => ?_)
       generalize w47.drew = w48 at HO273 HO279 BK282 BK283 HB HR284_3 HR284_6 hx284_0 hx284_1 hx284_2 hx284_3 hx284_4 hx284_5 hx284_6 hx284_7 hx284_8 hHeld ⊢
       refine pa_ 0 24 (bm 41 0x1) HT_ (h := ?_)
       refine pa_ 1 25 (bm 41 0x3) HT_ (h := ?_)
       refine pa_ 2 26 (bm 41 0x7) HT_ (h := ?_)
       refine pa_ 3 27 (bm 41 0xf) HT_ (h := ?_)
       refine take_ (i := 4) (N := some 28) (v := ?_) (a' := ?_) (bm 41 0x1f) rfl rfl (take_ofW HT_.out HW_.out (by kernel_rfl)) (fun _ _ _ h => h) (Or.inl ⟨by rfl, ?_⟩) hHeld ?_ ?_
       rotate_left
       ·
        rintro w' ⟨s0, s1, s2, s3, s4, s5, s6, s7, s8⟩
        go_simp
        with_reducible rfl
       rotate_left
       ·
        simp only [Act.put, sbA, sbB, sbC, i64_w, i32_w]
        rfl
       refine one_ (i := 5) (N := some 29) (bm 41 0x3f) rfl rfl (one_of HT_.out (by kernel_rfl)) (by decide) (fun K hK => ?_)
       refine goes_ Try.func45 (by kernel_rfl) rfl #[.agg #[.int .i64 ((rd_T76 l0 x3_1).f0.f0), .int .i64 ((rd_T76 l0 x3_1).f0.f1), .int .i64 ((rd_T76 l0 x3_1).f0.f2)]] (by rfl) rfl rfl (by (try simp only [List.map_toArray, List.map_cons, List.map_nil]); rfl) ?_
       with_reducible refine (remontoirref18_May.calls ((rd_T76 l0 x3_1).f0.f0) ((rd_T76 l0 x3_1).f0.f1) ((rd_T76 l0 x3_1).f0.f2) false _ A21.out).mono ?_
       rintro e w49 ⟨rfl, hb⟩
       refine ⟨_, rfl, ?_⟩
       replace HO273 := vb_ HO273 hb; replace HO279 := vb_ HO279 hb; replace BK282 := kb_ BK282 hb; replace BK283 := kb_ BK283 hb; replace HB := hb_ HB hb
       (try clear hb)
       (try clear hb2)
       (try clear hk)
       (try clear hi)
       refine hK.out _ _ ⟨bc_ HB.out hw284_0, bc_ HB.out hw284_1, bc_ HB.out hw284_2, bc_ HB.out hw284_3, bc_ HB.out hw284_4, bc_ HB.out hw284_5, bc_ HB.out hw284_6, bc_ HB.out hw284_7, bc_ HB.out hw284_8⟩ (fun hHeld => ?_)
       clear hK K
       refine nm_ 29 (h := ?_)
       refine pa_ 6 30 (bm 41 0x7f) HT_ (h := ?_)
       refine pa_ 7 31 (bm 41 0xff) HT_ (h := ?_)
       refine pz_ 8 32 (bm 41 0x1ff) HT_ (h := ?_)
       refine pz_ 9 33 (bm 41 0x3ff) HT_ (h := ?_)
       refine pz_ 10 34 (bm 41 0x7ff) HT_ (h := ?_)
       refine pa_ 11 35 (bm 41 0xfff) HT_ (h := ?_)
       refine pa_ 12 36 (bm 41 0x1fff) HT_ (h := ?_)
       refine pz_ 13 37 (bm 41 0x3fff) HT_ (h := ?_)
       refine pz_ 14 38 (bm 41 0x7fff) HT_ (h := ?_)
       refine pz_ 15 39 (bm 41 0xffff) HT_ (h := ?_)
       refine pa_ 16 40 (bm 41 0x1ffff) HT_ (h := ?_)
       refine pa_ 17 41 (bm 41 0x3ffff) HT_ (h := ?_)
       refine pz_ 18 42 (bm 41 0x7ffff) HT_ (h := ?_)
       refine pz_ 19 43 (bm 41 0xfffff) HT_ (h := ?_)
       refine pz_ 20 44 (bm 41 0x1fffff) HT_ (h := ?_)
       refine pz_ 21 45 (bm 41 0x3fffff) HT_ (h := ?_)
       refine pz_ 22 46 (bm 41 0x7fffff) HT_ (h := ?_)
       refine pz_ 23 47 (bm 41 0xffffff) HT_ (h := ?_)
       refine pz_ 24 48 (bm 41 0x1ffffff) HT_ (h := ?_)
       refine pz_ 25 49 (bm 41 0x3ffffff) HT_ (h := ?_)
       refine pz_ 26 50 (bm 41 0x7ffffff) HT_ (h := ?_)
       refine pz_ 27 51 (bm 41 0xfffffff) HT_ (h := ?_)
       refine pa_ 28 52 (bm 41 0x1fffffff) HT_ (h := ?_)
       refine pa_ 29 53 (bm 41 0x3fffffff) HT_ (h := ?_)
       refine pz_ 30 54 (bm 41 0x7fffffff) HT_ (h := ?_)
       refine pz_ 31 55 (bm 41 0xffffffff) HT_ (h := ?_)
       refine pz_ 32 56 (bm 41 0x1ffffffff) HT_ (h := ?_)
       refine pz_ 33 57 (bm 41 0x3ffffffff) HT_ (h := ?_)
       refine pz_ 34 58 (bm 41 0x7ffffffff) HT_ (h := ?_)
       refine pz_ 35 59 (bm 41 0xfffffffff) HT_ (h := ?_)
       refine pz_ 36 60 (bm 41 0x1fffffffff) HT_ (h := ?_)
       refine pz_ 37 61 (bm 41 0x3fffffffff) HT_ (h := ?_)
       refine pz_ 38 62 (bm 41 0x7fffffffff) HT_ (h := ?_)
       refine pz_ 39 63 (bm 41 0xffffffffff) HT_ (h := ?_)
       refine pa_ 40 64 (bm 41 0x1ffffffffff) HT_ (h := ?_)
       refine done_ (done_of HT_.out (by kernel_rfl)) ?_
       try go_wp2
       go_meet
       case rel => exact ⟨_, (true), (by rfl), H', ⟨by have := HK1.out; omega⟩, ⟨HO273.out⟩, ⟨HO279.out⟩, ⟨BK282.out⟩, ⟨BK283.out⟩, ⟨HB.out⟩⟩
     case rest =>
      clear HC6
      try clear c1
      try clear c2
      try clear p2
      try clear q2
      try clear hx2
      try clear c4
      try clear c14
      try clear c22
      try clear c28
      try clear p28
      try clear q28
      try clear hx28
      try clear c45
      try clear hx284_0
      try clear hx284_1
      try clear hx284_2
      try clear hx284_3
      try clear hx284_4
      try clear hx284_5
      try clear hx284_6
      try clear hx284_7
      try clear hx284_8
      try clear p284
      try clear q284
      obtain ⟨kq, x64_5, rfl, HA, HJ5, HO_283000, HO_284000, BK282, BK283, HB⟩ := hcut
      cases kq with
      | zero => exact absurd HA.out (by simp [remontoirlaw18_right.j1])
      | succ kj5 =>
       have H := HA.out
       clear HA
       simp only [remontoirlaw18_right.j1] at H
       by_cases c50 : x64_5 = true
       ·
        subst c50
        have H1 : (some false) = some r := by rw [if_pos rfl] at H; exact H
        clear H
        have H := H1
        clear H1
        obtain rfl := Option.some.inj H
        go_wp2
        go_ret
        exact ⟨by rfl, by repeat ((with_reducible (exact HB.out)))⟩
       ·
        replace c50 := Bool.eq_false_iff.mpr c50
        subst c50
        have H1 : (remontoirlaw18_right.l0 kj5 l0 (wrap64 (x3_1 + 1))) = some r := by rw [if_neg (show ¬ (false = true) by decide)] at H; exact H
        clear H
        have H := H1
        clear H1
        have H' := Aside0.mk H
        clear H
        go_wp2
        go_roundg kj5
        case measure => have := HK1.out; have := HJ5.out; omega
        case rel => exact ⟨(wrap64 (x3_1 + 1)), (by rfl), H', ⟨by have := HK1.out; have := HJ5.out; omega⟩, ⟨HB.out⟩⟩
    ·
     rw [if_neg c3] at H
     exact absurd H (by simp)
   ·
    rw [if_neg c2] at H
    have c2b0 : decide (x3_1 < (l0.length : Int)) = false := decide_eq_false c2
    clear c2
    obtain rfl := Option.some.inj H
    go_wp2
    go_ret
    exact ⟨by rfl, by repeat ((with_reducible (exact HB.out)))⟩

end Go.Proofs.Yteddflcloeelhaa.FDeliv
