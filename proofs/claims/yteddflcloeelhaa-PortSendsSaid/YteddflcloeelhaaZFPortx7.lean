-- Written by the session (wip/tools) for this claim: functions of the program as Lean functions, and their contracts.
import Derived.Test.YteddflcloeelhaaZXShort
import Derived.Test.YteddflcloeelhaaZFPortx0
import Derived.Test.YteddflcloeelhaaZFPortx5
import Derived.Test.YteddflcloeelhaaZFPortx6
namespace Go.Proofs.Yteddflcloeelhaa.FPort
open Go.RowKit Go.Proofs.YteddflcloeelhaaW.PrintWords Go.Proofs.YteddflcloeelhaaW.PrintLast Go.Proofs.YteddflcloeelhaaW.PrintMore
attribute [local go_sem] max2_int min2_int max_two min_two max_three min_three max_four min_four   -- for this text's walks alone
set_option linter.unusedVariables false
set_option linter.unusedSimpArgs false

/-! ### remontoirlaw18_right: function 33 -/
mutual
def remontoirlaw18_right.l0 : Nat → List (S76) → Int → Option (Bool)
 | 0, _, _ => none
 | k + 1, x0, x3 => if x3 < (x0.length : Int) then (if 0 ≤ x3 then ((remontoirlaw03_As.f ((rd_T76 x0 x3).f1.f0) ((rd_T76 x0 x3).f1.f1) ((rd_T76 x0 x3).f1.f2)).bind fun bt303 => ((remontoirlaw03_As.f ((rd_T76 x0 x3).f2.f0) ((rd_T76 x0 x3).f2.f1) ((rd_T76 x0 x3).f2.f2)).bind fun bt309 => ((remontoirref18_May.f ((rd_T76 x0 x3).f0.f0) ((rd_T76 x0 x3).f0.f1) ((rd_T76 x0 x3).f0.f2)).bind fun t317 => (if t317 = true then ((remontoirref03_Right.f bt303.1 bt303.2.1 bt303.2.2).bind fun t318 => (if t318 = true then ((remontoirref03_Right.f bt309.1 bt309.2.1 bt309.2.2).bind fun t319 => (if t319 = true then (if (bt303.1.length : Int) = ((rd_T76 x0 x3).f0.f2) then (remontoirlaw18_right.j1 k x0 x3 ((bt309.1.length : Int) != ((rd_T76 x0 x3).f0.f2))) else (remontoirlaw18_right.j1 k x0 x3 true)) else (remontoirlaw18_right.j1 k x0 x3 true))) else (remontoirlaw18_right.j1 k x0 x3 true))) else (remontoirlaw18_right.j1 k x0 x3 true))))) else (none)) else (some (decide ((x0.length : Int) ≤ 4)))
def remontoirlaw18_right.j1 : Nat → List (S76) → Int → Bool → Option (Bool)
 | 0, _, _, _ => none
 | k + 1, x0, x3, x64 => if x64 = true then (some false) else (remontoirlaw18_right.l0 k x0 (wrap64 (x3 + 1)))
end
def remontoirlaw18_right.f (k : Nat) (l0 : List (S76)) : Option (Bool) := remontoirlaw18_right.l0 k l0 0
theorem remontoirlaw18_right.mono_l : ∀ k, (∀ y0 y1, LeO (remontoirlaw18_right.l0 k y0 y1) (remontoirlaw18_right.l0 (k + 1) y0 y1)) ∧ (∀ y0 y1 y2, LeO (remontoirlaw18_right.j1 k y0 y1 y2) (remontoirlaw18_right.j1 (k + 1) y0 y1 y2))
 | 0 => ⟨fun _ _ r h => by simp [remontoirlaw18_right.l0] at h, fun _ _ _ r h => by simp [remontoirlaw18_right.j1] at h⟩
 | k + 1 => by
  obtain ⟨ih0, ih1⟩ := remontoirlaw18_right.mono_l k
  refine ⟨?_, ?_⟩
  ·
   intro y0 y1
   unfold remontoirlaw18_right.l0
   repeat' first | (with_reducible exact ih1 _ _ _) | (with_reducible exact LeO.refl _) | (with_reducible refine LeO.ite ?_ ?_) | (with_reducible refine LeO.bind ?_ (fun _ => ?_))
  ·
   intro y0 y1 y2
   unfold remontoirlaw18_right.j1
   repeat' first | (with_reducible exact ih0 _ _) | (with_reducible exact LeO.refl _) | (with_reducible refine LeO.ite ?_ ?_)
theorem remontoirlaw18_right.mono : ∀ a0 k, LeO (remontoirlaw18_right.f k a0) (remontoirlaw18_right.f (k + 1) a0) := by
 intro a0 k
 obtain ⟨ih0, ih1⟩ := remontoirlaw18_right.mono_l k
 unfold remontoirlaw18_right.f
 repeat' (with_reducible exact ih0 _ _)
def remontoirlaw18_right.T4 : Bool × List (List Nat × List Nat) := (true, [([], []), ([], []), ([0, 1], [0, 1]), ([2], [2]), ([3], [3]), ([4], [4]), ([], []), ([], []), ([6, 7], [6, 7]), ([8], [8]), ([9], [9]), ([10, 5], [10]), ([], []), ([], []), ([12, 5, 11, 0, 1, 2, 3, 4, 5, 12, 13], [5, 12]), ([13, 11, 14, 0, 1, 2, 3, 4, 5, 6, 7, 8, 9, 10, 11, 12, 13, 14], [11, 13])])
def remontoirlaw18_right.B4 : List Nat := [0, 0, 3, 7, 15, 31, 0, 0, 192, 448, 960, 2047, 0, 0, 16383, 32767]
theorem remontoirlaw18_right.tab4 : rtab .any (opsOf Try.f33 4) = remontoirlaw18_right.T4 := by kernel_rfl
theorem remontoirlaw18_right.bits4 : waitsOk remontoirlaw18_right.T4.2 remontoirlaw18_right.B4 = true := by kernel_rfl
def remontoirlaw18_right.T5 : Bool × List (List Nat × List Nat) := (true, [([], []), ([], []), ([0, 1], [0, 1]), ([2], [2]), ([3], [3]), ([4], [4]), ([5], [5]), ([6, 5], [6]), ([7], [7]), ([8, 7, 7], [7, 8]), ([9, 7], [7, 9]), ([7, 10], [7, 10]), ([11, 9], [11]), ([12], [12]), ([13, 12, 12], [12, 13]), ([14, 12], [12, 14]), ([12, 15], [12, 15]), ([16, 14], [16]), ([17], [17]), ([18, 17], [17, 18]), ([19, 17], [17, 19]), ([17], [17]), ([17], [17]), ([21, 22, 17], [17, 21, 22]), ([23, 17], [17, 23]), ([24, 17], [17, 24]), ([25, 17], [17, 25]), ([20, 26, 17], [17, 20, 26]), ([17, 27], [17, 27]), ([28, 17], [28]), ([29], [29]), ([30, 29], [29, 30]), ([31, 29], [29, 31]), ([29], [29]), ([29], [29]), ([33, 34, 29], [29, 33, 34]), ([35, 29], [29, 35]), ([36, 29], [29, 36]), ([37, 29], [29, 37]), ([32, 38, 29], [29, 32, 38]), ([29, 39], [29, 39])])
def remontoirlaw18_right.B5 : List Nat := [0, 0, 3, 7, 15, 31, 63, 127, 255, 511, 1023, 2047, 4095, 8191, 16383, 32767, 65535, 131071, 262143, 524287, 1048575, 262143, 262143, 6553599, 14942207, 31719423, 65273855, 134217727, 268435455, 536870911, 1073741823, 2147483647, 4294967295, 1073741823, 1073741823, 26843545599, 61203283967, 129922760703, 267361714175, 549755813887, 1099511627775]
theorem remontoirlaw18_right.tab5 : rtab .any (opsOf Try.f33 5) = remontoirlaw18_right.T5 := by kernel_rfl
theorem remontoirlaw18_right.bits5 : waitsOk remontoirlaw18_right.T5.2 remontoirlaw18_right.B5 = true := by kernel_rfl
set_option maxHeartbeats 8000000 in
set_option maxRecDepth 100000 in
theorem remontoirlaw18_right.calls (k : Nat) (A0 : Option Addr) (c0 : Nat) (l0 : List (S76)) (r : Bool) (w : World) (hr0 : Kd.C k76 w A0 l0.length l0) (hc0 : l0.length ≤ c0) (h : remontoirlaw18_right.f k l0 = some r) :
  Calls Try.prog 33 #[.slice A0 l0.length c0] w fun e w' => e = .returned (.bool r) ∧ Below w.heap.size w w' := by
 have hu24 := Try.underlying24
 have hu30 := Try.underlying30
 have hu51 := Try.underlying51
 have HR0 := Aside0.mk hr0
 have HC0 := Aside0.mk hc0
 clear hr0 hc0
 have HB := Aside0.mk (Below.refl w.heap.size w)
 have H : (remontoirlaw18_right.l0 k l0 0) = some r := h
 clear h
 have H' := Aside0.mk H
 clear H
 go_enter Try.func33, Try.ntmps33
 go_wp2
 go_loopg [3] k (fun kq v3 w' => ∃ (x3_1 : Int), v3 = .int .i64 x3_1 ∧ Aside0 (remontoirlaw18_right.l0 kq l0 x3_1 = some r) ∧ Aside0 (kq ≤ k) ∧ Aside0 (Below w.heap.size w w'))
 case atStart => exact ⟨(0), (by rfl), H', ⟨Nat.le_refl _⟩, ⟨HB.out⟩⟩
 case round =>
  clear H'
  obtain ⟨x3_1, rfl, HA, HK1, HB⟩ := hrel
  cases gk with
  | zero => exact absurd HA.out (by simp [remontoirlaw18_right.l0])
  | succ k1 =>
   have H := HA.out
   clear HA
   simp only [remontoirlaw18_right.l0] at H
   by_cases c2 : x3_1 < (l0.length : Int)
   ·
    rw [if_pos c2] at H
    have c2b0 : decide (x3_1 < (l0.length : Int)) = true := decide_eq_true c2
    clear c2
    by_cases c3 : 0 ≤ x3_1
    ·
     rw [if_pos c3] at H
     have c3b0 : decide (0 ≤ x3_1) = true := decide_eq_true c3
     clear c3
     replace H := Option.bind_eq_some_iff.mp H
     obtain ⟨⟨t303, t306, t307⟩, A40, H⟩ := H
     replace H : ((remontoirlaw03_As.f ((rd_T76 l0 x3_1).f2.f0) ((rd_T76 l0 x3_1).f2.f1) ((rd_T76 l0 x3_1).f2.f2)).bind fun bt309 => ((remontoirref18_May.f ((rd_T76 l0 x3_1).f0.f0) ((rd_T76 l0 x3_1).f0.f1) ((rd_T76 l0 x3_1).f0.f2)).bind fun t317 => (if t317 = true then ((remontoirref03_Right.f t303 t306 t307).bind fun t318 => (if t318 = true then ((remontoirref03_Right.f bt309.1 bt309.2.1 bt309.2.2).bind fun t319 => (if t319 = true then (if (t303.length : Int) = ((rd_T76 l0 x3_1).f0.f2) then (remontoirlaw18_right.j1 k1 l0 x3_1 ((bt309.1.length : Int) != ((rd_T76 l0 x3_1).f0.f2))) else (remontoirlaw18_right.j1 k1 l0 x3_1 true)) else (remontoirlaw18_right.j1 k1 l0 x3_1 true))) else (remontoirlaw18_right.j1 k1 l0 x3_1 true))) else (remontoirlaw18_right.j1 k1 l0 x3_1 true)))) = some r := H
     have A4 := Aside0.mk A40
     clear A40
     replace H := Option.bind_eq_some_iff.mp H
     obtain ⟨⟨t309, t312, t313⟩, A50, H⟩ := H
     replace H : ((remontoirref18_May.f ((rd_T76 l0 x3_1).f0.f0) ((rd_T76 l0 x3_1).f0.f1) ((rd_T76 l0 x3_1).f0.f2)).bind fun t317 => (if t317 = true then ((remontoirref03_Right.f t303 t306 t307).bind fun t318 => (if t318 = true then ((remontoirref03_Right.f t309 t312 t313).bind fun t319 => (if t319 = true then (if (t303.length : Int) = ((rd_T76 l0 x3_1).f0.f2) then (remontoirlaw18_right.j1 k1 l0 x3_1 ((t309.length : Int) != ((rd_T76 l0 x3_1).f0.f2))) else (remontoirlaw18_right.j1 k1 l0 x3_1 true)) else (remontoirlaw18_right.j1 k1 l0 x3_1 true))) else (remontoirlaw18_right.j1 k1 l0 x3_1 true))) else (remontoirlaw18_right.j1 k1 l0 x3_1 true))) = some r := H
     have A5 := Aside0.mk A50
     clear A50
     have HC6 := Aside0.mk H
     clear H
     try go_wp2
     have n0_ := Aside0.mk (below_drew1 HB.out)
     clear HB; have HB := n0_; clear n0_
     have p302 : 0 ≤ (x3_1 : Int) := of_decide_eq_true (by (with_reducible assumption))
     have q302 : x3_1 < (l0.length : Int) := of_decide_eq_true (by (with_reducible assumption))
     obtain ⟨ad302, A302_3, c302_3, A302_6, c302_6, e302, hx302_0, hx302_1, hx302_2, hx302_3, hx302_4, hx302_5, hx302_6, hx302_7, hx302_8, hl302_3, hi302_3, hl302_6, hi302_6⟩ := at_T76 HR0.out x3_1 p302 q302
     have hw302_8 := hx302_8
     have hw302_7 := hx302_7
     have hw302_6 := hx302_6
     have hw302_5 := hx302_5
     have hw302_4 := hx302_4
     have hw302_3 := hx302_3
     have hw302_2 := hx302_2
     have hw302_1 := hx302_1
     have hw302_0 := hx302_0
     cases e302
     replace hx302_0 := bc_ HB.out hx302_0
     replace hx302_1 := bc_ HB.out hx302_1
     replace hx302_2 := bc_ HB.out hx302_2
     replace hx302_3 := bc_ HB.out hx302_3
     replace hx302_4 := bc_ HB.out hx302_4
     replace hx302_5 := bc_ HB.out hx302_5
     replace hx302_6 := bc_ HB.out hx302_6
     replace hx302_7 := bc_ HB.out hx302_7
     replace hx302_8 := bc_ HB.out hx302_8
     have HR302_3 := Aside0.mk hi302_3
     have HC302_3 := Aside0.mk hl302_3
     clear hi302_3 hl302_3
     have HR302_6 := Aside0.mk hi302_6
     have HC302_6 := Aside0.mk hl302_6
     clear hi302_6 hl302_6
     replace p302 := eq_true p302
     replace q302 := eq_true q302
     have p308 : 0 ≤ (x3_1 : Int) := of_decide_eq_true (by (with_reducible assumption))
     have q308 : x3_1 < (l0.length : Int) := of_decide_eq_true (by (with_reducible assumption))
     obtain ⟨ad308, A308_3, c308_3, A308_6, c308_6, e308, hx308_0, hx308_1, hx308_2, hx308_3, hx308_4, hx308_5, hx308_6, hx308_7, hx308_8, hl308_3, hi308_3, hl308_6, hi308_6⟩ := at_T76 HR0.out x3_1 p308 q308
     have hw308_8 := hx308_8
     have hw308_7 := hx308_7
     have hw308_6 := hx308_6
     have hw308_5 := hx308_5
     have hw308_4 := hx308_4
     have hw308_3 := hx308_3
     have hw308_2 := hx308_2
     have hw308_1 := hx308_1
     have hw308_0 := hx308_0
     obtain rfl : ad302 = ad308 := (by injection e308)
     replace hx308_0 := bc_ HB.out hx308_0
     replace hx308_1 := bc_ HB.out hx308_1
     replace hx308_2 := bc_ HB.out hx308_2
     replace hx308_3 := bc_ HB.out hx308_3
     replace hx308_4 := bc_ HB.out hx308_4
     replace hx308_5 := bc_ HB.out hx308_5
     replace hx308_6 := bc_ HB.out hx308_6
     replace hx308_7 := bc_ HB.out hx308_7
     replace hx308_8 := bc_ HB.out hx308_8
     have HR308_3 := Aside0.mk hi308_3
     have HC308_3 := Aside0.mk hl308_3
     clear hi308_3 hl308_3
     have HR308_6 := Aside0.mk hi308_6
     have HC308_6 := Aside0.mk hl308_6
     clear hi308_6 hl308_6
     replace p308 := eq_true p308
     replace q308 := eq_true q308
     have ea_ := Option.some.inj (hx302_3.symm.trans hx308_3)
     injection ea_ with ea_ en_ ec_
     subst ea_
     subst ec_
     clear en_
     have ea_ := Option.some.inj (hx302_6.symm.trans hx308_6)
     injection ea_ with ea_ en_ ec_
     subst ea_
     subst ec_
     clear en_
     refine start_ (n := 16) (S := fun w' => hc9_ w' (ad302.add ((x3_1).toNat * 9)) (.int .i64 ((rd_T76 l0 x3_1).f0.f0)) (.int .i64 ((rd_T76 l0 x3_1).f0.f1)) (.int .i64 ((rd_T76 l0 x3_1).f0.f2)) (.slice A302_3 ((rd_T76 l0 x3_1).f1.f0).length c302_3) (.int .i64 ((rd_T76 l0 x3_1).f1.f1)) (.int .i64 ((rd_T76 l0 x3_1).f1.f2)) (.slice A302_6 ((rd_T76 l0 x3_1).f2.f0).length c302_6) (.int .i64 ((rd_T76 l0 x3_1).f2.f1)) (.int .i64 ((rd_T76 l0 x3_1).f2.f2)) (he9_ w' (ad302.add ((x3_1).toNat * 9)) (.int .i64 ((rd_T76 l0 x3_1).f0.f0)) (.int .i64 ((rd_T76 l0 x3_1).f0.f1)) (.int .i64 ((rd_T76 l0 x3_1).f0.f2)) (.slice A302_3 ((rd_T76 l0 x3_1).f1.f0).length c302_3) (.int .i64 ((rd_T76 l0 x3_1).f1.f1)) (.int .i64 ((rd_T76 l0 x3_1).f1.f2)) (.slice A302_6 ((rd_T76 l0 x3_1).f2.f0).length c302_6) (.int .i64 ((rd_T76 l0 x3_1).f2.f1)) (.int .i64 ((rd_T76 l0 x3_1).f2.f2)))) (ds := []) #[false, false, false, false, false, false, false, false, false, false, false, false, false, false, false, false] (by kernel_rfl) rfl rfl ⟨bc_ HB.out hw302_0, bc_ HB.out hw302_1, bc_ HB.out hw302_2, bc_ HB.out hw302_3, bc_ HB.out hw302_4, bc_ HB.out hw302_5, bc_ HB.out hw302_6, bc_ HB.out hw302_7, bc_ HB.out hw302_8, bc_ HB.out hw308_0, bc_ HB.out hw308_1, bc_ HB.out hw308_2, bc_ HB.out hw308_3, bc_ HB.out hw308_4, bc_ HB.out hw308_5, bc_ HB.out hw308_6, bc_ HB.out hw308_7, bc_ HB.out hw308_8⟩ (fun hHeld => ?_); refine with_tabW remontoirlaw18_right.tab4 remontoirlaw18_right.bits4 (fun HT_ HW_ => ?_)
     generalize wr.drew = w7 at HB HR302_3 HR302_6 HR308_3 HR308_6 hx302_0 hx302_1 hx302_2 hx302_3 hx302_4 hx302_5 hx302_6 hx302_7 hx302_8 hx308_0 hx308_1 hx308_2 hx308_3 hx308_4 hx308_5 hx308_6 hx308_7 hx308_8 hHeld ⊢
     refine pa_ 0 12 (bm 16 0x1) HT_ (h := ?_)
     refine pa_ 1 13 (bm 16 0x3) HT_ (h := ?_)
     refine pa_ 2 14 (bm 16 0x7) HT_ (h := ?_)
     refine pa_ 3 15 (bm 16 0xf) HT_ (h := ?_)
     refine pa_ 6 18 (bm 16 0x4f) HT_ (h := ?_)
     refine pa_ 7 19 (bm 16 0xcf) HT_ (h := ?_)
     refine pa_ 8 20 (bm 16 0x1cf) HT_ (h := ?_)
     refine pa_ 9 21 (bm 16 0x3cf) HT_ (h := ?_)
     refine take_ (i := 4) (N := some 16) (v := ?_) (a' := ?_) (bm 16 0x3df) rfl rfl (take_ofW HT_.out HW_.out (by kernel_rfl)) (fun _ _ _ h => h) (Or.inl ⟨by rfl, ?_⟩) hHeld ?_ ?_
     rotate_left
     ·
      rintro w' ⟨s0, s1, s2, s3, s4, s5, s6, s7, s8, s9, s10, s11, s12, s13, s14, s15, s16, s17⟩
      go_simp
      with_reducible rfl
     rotate_left
     ·
      simp only [Act.put, sbA, sbB, sbC, i64_w, i32_w]
      rfl
     refine take_ (i := 10) (N := some 22) (v := ?_) (a' := ?_) (bm 16 0x7df) rfl rfl (take_ofW HT_.out HW_.out (by kernel_rfl)) (fun _ _ _ h => h) (Or.inl ⟨by rfl, ?_⟩) hHeld ?_ ?_
     rotate_left
     ·
      rintro w' ⟨s0, s1, s2, s3, s4, s5, s6, s7, s8, s9, s10, s11, s12, s13, s14, s15, s16, s17⟩
      go_simp
      with_reducible rfl
     rotate_left
     ·
      simp only [Act.put, sbA, sbB, sbC, i64_w, i32_w]
      rfl
     refine join_ (σ := Value × Value × Nat × Nat) 2 (bm 16 0x3fff) (fun s_ => [(17, .agg #[s_.1, .int .i64 t306, .int .i64 t307]), (23, .agg #[s_.2.1, .int .i64 t312, .int .i64 t313]), (4, .pointer (some ⟨s_.2.2.1, 0, none⟩)), (5, .pointer (some ⟨s_.2.2.2, 0, none⟩))]) (fun s_ w' => (hc9_ w' (ad302.add ((x3_1).toNat * 9)) (.int .i64 ((rd_T76 l0 x3_1).f0.f0)) (.int .i64 ((rd_T76 l0 x3_1).f0.f1)) (.int .i64 ((rd_T76 l0 x3_1).f0.f2)) (.slice A302_3 ((rd_T76 l0 x3_1).f1.f0).length c302_3) (.int .i64 ((rd_T76 l0 x3_1).f1.f1)) (.int .i64 ((rd_T76 l0 x3_1).f1.f2)) (.slice A302_6 ((rd_T76 l0 x3_1).f2.f0).length c302_6) (.int .i64 ((rd_T76 l0 x3_1).f2.f1)) (.int .i64 ((rd_T76 l0 x3_1).f2.f2)) (he9_ w' (ad302.add ((x3_1).toNat * 9)) (.int .i64 ((rd_T76 l0 x3_1).f0.f0)) (.int .i64 ((rd_T76 l0 x3_1).f0.f1)) (.int .i64 ((rd_T76 l0 x3_1).f0.f2)) (.slice A302_3 ((rd_T76 l0 x3_1).f1.f0).length c302_3) (.int .i64 ((rd_T76 l0 x3_1).f1.f1)) (.int .i64 ((rd_T76 l0 x3_1).f1.f2)) (.slice A302_6 ((rd_T76 l0 x3_1).f2.f0).length c302_6) (.int .i64 ((rd_T76 l0 x3_1).f2.f1)) (.int .i64 ((rd_T76 l0 x3_1).f2.f2)))) ∧ (Kd.V (Kd.int .i64) 3 w' w.heap.size (fun k_ => k_ ≠ s_.2.2.1 ∧ k_ ≠ s_.2.2.2) s_.1 t303) ∧ (Kd.V (Kd.int .i64) 3 w' w.heap.size (fun k_ => k_ ≠ s_.2.2.1 ∧ k_ ≠ s_.2.2.2) s_.2.1 t309) ∧ (w'.heap[s_.2.2.1]? = some (.cells #[.slice none 0 0, .int .i64 0, .int .i64 0] 30 (0, 0))) ∧ (w'.heap[s_.2.2.2]? = some (.cells #[.slice none 0 0, .int .i64 0, .int .i64 0] 30 (0, 0))) ∧ (w.heap.size ≤ s_.2.2.1) ∧ (w.heap.size ≤ s_.2.2.1) ∧ (s_.2.2.2 ≠ s_.2.2.1) ∧ (s_.2.2.1 ≠ s_.2.2.2) ∧ (w.heap.size ≤ s_.2.2.2) ∧ (w.heap.size ≤ s_.2.2.2) ∧ (Below w.heap.size w w')) ?_ ?_
     rotate_left
     ·
      intro hJ5_11_12_13
      refine join_ (σ := Value × Value × Nat) 3 (bm 16 0x1fff) (fun s_ => [(17, .agg #[s_.1, .int .i64 t306, .int .i64 t307]), (23, .agg #[s_.2.1, .int .i64 t312, .int .i64 t313]), (4, .pointer (some ⟨s_.2.2, 0, none⟩))]) (fun s_ w' => (hc9_ w' (ad302.add ((x3_1).toNat * 9)) (.int .i64 ((rd_T76 l0 x3_1).f0.f0)) (.int .i64 ((rd_T76 l0 x3_1).f0.f1)) (.int .i64 ((rd_T76 l0 x3_1).f0.f2)) (.slice A302_3 ((rd_T76 l0 x3_1).f1.f0).length c302_3) (.int .i64 ((rd_T76 l0 x3_1).f1.f1)) (.int .i64 ((rd_T76 l0 x3_1).f1.f2)) (.slice A302_6 ((rd_T76 l0 x3_1).f2.f0).length c302_6) (.int .i64 ((rd_T76 l0 x3_1).f2.f1)) (.int .i64 ((rd_T76 l0 x3_1).f2.f2)) (he9_ w' (ad302.add ((x3_1).toNat * 9)) (.int .i64 ((rd_T76 l0 x3_1).f0.f0)) (.int .i64 ((rd_T76 l0 x3_1).f0.f1)) (.int .i64 ((rd_T76 l0 x3_1).f0.f2)) (.slice A302_3 ((rd_T76 l0 x3_1).f1.f0).length c302_3) (.int .i64 ((rd_T76 l0 x3_1).f1.f1)) (.int .i64 ((rd_T76 l0 x3_1).f1.f2)) (.slice A302_6 ((rd_T76 l0 x3_1).f2.f0).length c302_6) (.int .i64 ((rd_T76 l0 x3_1).f2.f1)) (.int .i64 ((rd_T76 l0 x3_1).f2.f2)))) ∧ (Kd.V (Kd.int .i64) 3 w' w.heap.size (fun k_ => k_ ≠ s_.2.2) s_.1 t303) ∧ (Kd.V (Kd.int .i64) 3 w' w.heap.size (fun k_ => k_ ≠ s_.2.2) s_.2.1 t309) ∧ (w'.heap[s_.2.2]? = some (.cells #[.slice none 0 0, .int .i64 0, .int .i64 0] 30 (0, 0))) ∧ (w.heap.size ≤ s_.2.2) ∧ (w.heap.size ≤ s_.2.2) ∧ (Below w.heap.size w w')) ?_ ?_
      rotate_left
      ·
       intro hJ5_11_12
       refine join_ (σ := Value × Value × Nat) 3 (bm 16 0x2fff) (fun s_ => [(17, .agg #[s_.1, .int .i64 t306, .int .i64 t307]), (23, .agg #[s_.2.1, .int .i64 t312, .int .i64 t313]), (5, .pointer (some ⟨s_.2.2, 0, none⟩))]) (fun s_ w' => (hc9_ w' (ad302.add ((x3_1).toNat * 9)) (.int .i64 ((rd_T76 l0 x3_1).f0.f0)) (.int .i64 ((rd_T76 l0 x3_1).f0.f1)) (.int .i64 ((rd_T76 l0 x3_1).f0.f2)) (.slice A302_3 ((rd_T76 l0 x3_1).f1.f0).length c302_3) (.int .i64 ((rd_T76 l0 x3_1).f1.f1)) (.int .i64 ((rd_T76 l0 x3_1).f1.f2)) (.slice A302_6 ((rd_T76 l0 x3_1).f2.f0).length c302_6) (.int .i64 ((rd_T76 l0 x3_1).f2.f1)) (.int .i64 ((rd_T76 l0 x3_1).f2.f2)) (he9_ w' (ad302.add ((x3_1).toNat * 9)) (.int .i64 ((rd_T76 l0 x3_1).f0.f0)) (.int .i64 ((rd_T76 l0 x3_1).f0.f1)) (.int .i64 ((rd_T76 l0 x3_1).f0.f2)) (.slice A302_3 ((rd_T76 l0 x3_1).f1.f0).length c302_3) (.int .i64 ((rd_T76 l0 x3_1).f1.f1)) (.int .i64 ((rd_T76 l0 x3_1).f1.f2)) (.slice A302_6 ((rd_T76 l0 x3_1).f2.f0).length c302_6) (.int .i64 ((rd_T76 l0 x3_1).f2.f1)) (.int .i64 ((rd_T76 l0 x3_1).f2.f2)))) ∧ (Kd.V (Kd.int .i64) 3 w' w.heap.size (fun k_ => k_ ≠ s_.2.2) s_.1 t303) ∧ (Kd.V (Kd.int .i64) 3 w' w.heap.size (fun k_ => k_ ≠ s_.2.2) s_.2.1 t309) ∧ (w'.heap[s_.2.2]? = some (.cells #[.slice none 0 0, .int .i64 0, .int .i64 0] 30 (0, 0))) ∧ (w.heap.size ≤ s_.2.2) ∧ (w.heap.size ≤ s_.2.2) ∧ (Below w.heap.size w w')) ?_ ?_
       rotate_left
       ·
        intro hJ5_11_13
        refine join_ (σ := Value × Nat × Nat) 3 (bm 16 0x37ff) (fun s_ => [(17, .agg #[s_.1, .int .i64 t306, .int .i64 t307]), (4, .pointer (some ⟨s_.2.1, 0, none⟩)), (5, .pointer (some ⟨s_.2.2, 0, none⟩))]) (fun s_ w' => (hc9_ w' (ad302.add ((x3_1).toNat * 9)) (.int .i64 ((rd_T76 l0 x3_1).f0.f0)) (.int .i64 ((rd_T76 l0 x3_1).f0.f1)) (.int .i64 ((rd_T76 l0 x3_1).f0.f2)) (.slice A302_3 ((rd_T76 l0 x3_1).f1.f0).length c302_3) (.int .i64 ((rd_T76 l0 x3_1).f1.f1)) (.int .i64 ((rd_T76 l0 x3_1).f1.f2)) (.slice A302_6 ((rd_T76 l0 x3_1).f2.f0).length c302_6) (.int .i64 ((rd_T76 l0 x3_1).f2.f1)) (.int .i64 ((rd_T76 l0 x3_1).f2.f2)) (he9_ w' (ad302.add ((x3_1).toNat * 9)) (.int .i64 ((rd_T76 l0 x3_1).f0.f0)) (.int .i64 ((rd_T76 l0 x3_1).f0.f1)) (.int .i64 ((rd_T76 l0 x3_1).f0.f2)) (.slice A302_3 ((rd_T76 l0 x3_1).f1.f0).length c302_3) (.int .i64 ((rd_T76 l0 x3_1).f1.f1)) (.int .i64 ((rd_T76 l0 x3_1).f1.f2)) (.slice A302_6 ((rd_T76 l0 x3_1).f2.f0).length c302_6) (.int .i64 ((rd_T76 l0 x3_1).f2.f1)) (.int .i64 ((rd_T76 l0 x3_1).f2.f2)))) ∧ (Kd.V (Kd.int .i64) 3 w' w.heap.size (fun k_ => k_ ≠ s_.2.1 ∧ k_ ≠ s_.2.2) s_.1 t303) ∧ (w'.heap[s_.2.1]? = some (.cells #[.slice none 0 0, .int .i64 0, .int .i64 0] 30 (0, 0))) ∧ (w'.heap[s_.2.2]? = some (.cells #[.slice none 0 0, .int .i64 0, .int .i64 0] 30 (0, 0))) ∧ (w.heap.size ≤ s_.2.1) ∧ (w.heap.size ≤ s_.2.1) ∧ (s_.2.2 ≠ s_.2.1) ∧ (s_.2.1 ≠ s_.2.2) ∧ (w.heap.size ≤ s_.2.2) ∧ (w.heap.size ≤ s_.2.2) ∧ (Below w.heap.size w w')) ?_ ?_
        rotate_left
        ·
         intro hJ5_12_13
         refine join_ (σ := Value × Value) 4 (bm 16 0xfff) (fun s_ => [(17, .agg #[s_.1, .int .i64 t306, .int .i64 t307]), (23, .agg #[s_.2, .int .i64 t312, .int .i64 t313])]) (fun s_ w' => (hc9_ w' (ad302.add ((x3_1).toNat * 9)) (.int .i64 ((rd_T76 l0 x3_1).f0.f0)) (.int .i64 ((rd_T76 l0 x3_1).f0.f1)) (.int .i64 ((rd_T76 l0 x3_1).f0.f2)) (.slice A302_3 ((rd_T76 l0 x3_1).f1.f0).length c302_3) (.int .i64 ((rd_T76 l0 x3_1).f1.f1)) (.int .i64 ((rd_T76 l0 x3_1).f1.f2)) (.slice A302_6 ((rd_T76 l0 x3_1).f2.f0).length c302_6) (.int .i64 ((rd_T76 l0 x3_1).f2.f1)) (.int .i64 ((rd_T76 l0 x3_1).f2.f2)) (he9_ w' (ad302.add ((x3_1).toNat * 9)) (.int .i64 ((rd_T76 l0 x3_1).f0.f0)) (.int .i64 ((rd_T76 l0 x3_1).f0.f1)) (.int .i64 ((rd_T76 l0 x3_1).f0.f2)) (.slice A302_3 ((rd_T76 l0 x3_1).f1.f0).length c302_3) (.int .i64 ((rd_T76 l0 x3_1).f1.f1)) (.int .i64 ((rd_T76 l0 x3_1).f1.f2)) (.slice A302_6 ((rd_T76 l0 x3_1).f2.f0).length c302_6) (.int .i64 ((rd_T76 l0 x3_1).f2.f1)) (.int .i64 ((rd_T76 l0 x3_1).f2.f2)))) ∧ (Kd.V (Kd.int .i64) 3 w' w.heap.size (fun _ => True) s_.1 t303) ∧ (Kd.V (Kd.int .i64) 3 w' w.heap.size (fun _ => True) s_.2 t309) ∧ (Below w.heap.size w w')) ?_ ?_
         rotate_left
         ·
          intro hJ5_11
          refine join_ (σ := Value × Nat) 4 (bm 16 0x17ff) (fun s_ => [(17, .agg #[s_.1, .int .i64 t306, .int .i64 t307]), (4, .pointer (some ⟨s_.2, 0, none⟩))]) (fun s_ w' => (hc9_ w' (ad302.add ((x3_1).toNat * 9)) (.int .i64 ((rd_T76 l0 x3_1).f0.f0)) (.int .i64 ((rd_T76 l0 x3_1).f0.f1)) (.int .i64 ((rd_T76 l0 x3_1).f0.f2)) (.slice A302_3 ((rd_T76 l0 x3_1).f1.f0).length c302_3) (.int .i64 ((rd_T76 l0 x3_1).f1.f1)) (.int .i64 ((rd_T76 l0 x3_1).f1.f2)) (.slice A302_6 ((rd_T76 l0 x3_1).f2.f0).length c302_6) (.int .i64 ((rd_T76 l0 x3_1).f2.f1)) (.int .i64 ((rd_T76 l0 x3_1).f2.f2)) (he9_ w' (ad302.add ((x3_1).toNat * 9)) (.int .i64 ((rd_T76 l0 x3_1).f0.f0)) (.int .i64 ((rd_T76 l0 x3_1).f0.f1)) (.int .i64 ((rd_T76 l0 x3_1).f0.f2)) (.slice A302_3 ((rd_T76 l0 x3_1).f1.f0).length c302_3) (.int .i64 ((rd_T76 l0 x3_1).f1.f1)) (.int .i64 ((rd_T76 l0 x3_1).f1.f2)) (.slice A302_6 ((rd_T76 l0 x3_1).f2.f0).length c302_6) (.int .i64 ((rd_T76 l0 x3_1).f2.f1)) (.int .i64 ((rd_T76 l0 x3_1).f2.f2)))) ∧ (Kd.V (Kd.int .i64) 3 w' w.heap.size (fun k_ => k_ ≠ s_.2) s_.1 t303) ∧ (w'.heap[s_.2]? = some (.cells #[.slice none 0 0, .int .i64 0, .int .i64 0] 30 (0, 0))) ∧ (w.heap.size ≤ s_.2) ∧ (w.heap.size ≤ s_.2) ∧ (Below w.heap.size w w')) ?_ ?_
          rotate_left
          ·
           intro hJ5_12
           refine join_ (σ := Value × Nat) 4 (bm 16 0x27ff) (fun s_ => [(17, .agg #[s_.1, .int .i64 t306, .int .i64 t307]), (5, .pointer (some ⟨s_.2, 0, none⟩))]) (fun s_ w' => (hc9_ w' (ad302.add ((x3_1).toNat * 9)) (.int .i64 ((rd_T76 l0 x3_1).f0.f0)) (.int .i64 ((rd_T76 l0 x3_1).f0.f1)) (.int .i64 ((rd_T76 l0 x3_1).f0.f2)) (.slice A302_3 ((rd_T76 l0 x3_1).f1.f0).length c302_3) (.int .i64 ((rd_T76 l0 x3_1).f1.f1)) (.int .i64 ((rd_T76 l0 x3_1).f1.f2)) (.slice A302_6 ((rd_T76 l0 x3_1).f2.f0).length c302_6) (.int .i64 ((rd_T76 l0 x3_1).f2.f1)) (.int .i64 ((rd_T76 l0 x3_1).f2.f2)) (he9_ w' (ad302.add ((x3_1).toNat * 9)) (.int .i64 ((rd_T76 l0 x3_1).f0.f0)) (.int .i64 ((rd_T76 l0 x3_1).f0.f1)) (.int .i64 ((rd_T76 l0 x3_1).f0.f2)) (.slice A302_3 ((rd_T76 l0 x3_1).f1.f0).length c302_3) (.int .i64 ((rd_T76 l0 x3_1).f1.f1)) (.int .i64 ((rd_T76 l0 x3_1).f1.f2)) (.slice A302_6 ((rd_T76 l0 x3_1).f2.f0).length c302_6) (.int .i64 ((rd_T76 l0 x3_1).f2.f1)) (.int .i64 ((rd_T76 l0 x3_1).f2.f2)))) ∧ (Kd.V (Kd.int .i64) 3 w' w.heap.size (fun k_ => k_ ≠ s_.2) s_.1 t303) ∧ (w'.heap[s_.2]? = some (.cells #[.slice none 0 0, .int .i64 0, .int .i64 0] 30 (0, 0))) ∧ (w.heap.size ≤ s_.2) ∧ (w.heap.size ≤ s_.2) ∧ (Below w.heap.size w w')) ?_ ?_
           rotate_left
           ·
            intro hJ5_13
            refine join_ (σ := Nat × Nat) 4 (bm 16 0x37df) (fun s_ => [(4, .pointer (some ⟨s_.1, 0, none⟩)), (5, .pointer (some ⟨s_.2, 0, none⟩))]) (fun s_ w' => (hc9_ w' (ad302.add ((x3_1).toNat * 9)) (.int .i64 ((rd_T76 l0 x3_1).f0.f0)) (.int .i64 ((rd_T76 l0 x3_1).f0.f1)) (.int .i64 ((rd_T76 l0 x3_1).f0.f2)) (.slice A302_3 ((rd_T76 l0 x3_1).f1.f0).length c302_3) (.int .i64 ((rd_T76 l0 x3_1).f1.f1)) (.int .i64 ((rd_T76 l0 x3_1).f1.f2)) (.slice A302_6 ((rd_T76 l0 x3_1).f2.f0).length c302_6) (.int .i64 ((rd_T76 l0 x3_1).f2.f1)) (.int .i64 ((rd_T76 l0 x3_1).f2.f2)) (he9_ w' (ad302.add ((x3_1).toNat * 9)) (.int .i64 ((rd_T76 l0 x3_1).f0.f0)) (.int .i64 ((rd_T76 l0 x3_1).f0.f1)) (.int .i64 ((rd_T76 l0 x3_1).f0.f2)) (.slice A302_3 ((rd_T76 l0 x3_1).f1.f0).length c302_3) (.int .i64 ((rd_T76 l0 x3_1).f1.f1)) (.int .i64 ((rd_T76 l0 x3_1).f1.f2)) (.slice A302_6 ((rd_T76 l0 x3_1).f2.f0).length c302_6) (.int .i64 ((rd_T76 l0 x3_1).f2.f1)) (.int .i64 ((rd_T76 l0 x3_1).f2.f2)))) ∧ (w'.heap[s_.1]? = some (.cells #[.slice none 0 0, .int .i64 0, .int .i64 0] 30 (0, 0))) ∧ (w'.heap[s_.2]? = some (.cells #[.slice none 0 0, .int .i64 0, .int .i64 0] 30 (0, 0))) ∧ (w.heap.size ≤ s_.1) ∧ (w.heap.size ≤ s_.1) ∧ (s_.2 ≠ s_.1) ∧ (s_.1 ≠ s_.2) ∧ (w.heap.size ≤ s_.2) ∧ (w.heap.size ≤ s_.2) ∧ (Below w.heap.size w w')) ?_ ?_
            rotate_left
            ·
             intro hJ12_13
             refine join_ (σ := Value) 5 (bm 16 0x7ff) (fun s_ => [(17, .agg #[s_, .int .i64 t306, .int .i64 t307])]) (fun s_ w' => (hc9_ w' (ad302.add ((x3_1).toNat * 9)) (.int .i64 ((rd_T76 l0 x3_1).f0.f0)) (.int .i64 ((rd_T76 l0 x3_1).f0.f1)) (.int .i64 ((rd_T76 l0 x3_1).f0.f2)) (.slice A302_3 ((rd_T76 l0 x3_1).f1.f0).length c302_3) (.int .i64 ((rd_T76 l0 x3_1).f1.f1)) (.int .i64 ((rd_T76 l0 x3_1).f1.f2)) (.slice A302_6 ((rd_T76 l0 x3_1).f2.f0).length c302_6) (.int .i64 ((rd_T76 l0 x3_1).f2.f1)) (.int .i64 ((rd_T76 l0 x3_1).f2.f2)) (he9_ w' (ad302.add ((x3_1).toNat * 9)) (.int .i64 ((rd_T76 l0 x3_1).f0.f0)) (.int .i64 ((rd_T76 l0 x3_1).f0.f1)) (.int .i64 ((rd_T76 l0 x3_1).f0.f2)) (.slice A302_3 ((rd_T76 l0 x3_1).f1.f0).length c302_3) (.int .i64 ((rd_T76 l0 x3_1).f1.f1)) (.int .i64 ((rd_T76 l0 x3_1).f1.f2)) (.slice A302_6 ((rd_T76 l0 x3_1).f2.f0).length c302_6) (.int .i64 ((rd_T76 l0 x3_1).f2.f1)) (.int .i64 ((rd_T76 l0 x3_1).f2.f2)))) ∧ (Kd.V (Kd.int .i64) 3 w' w.heap.size (fun _ => True) s_ t303) ∧ (Below w.heap.size w w')) ?_ ?_
             rotate_left
             ·
              intro hJ5
              refine join_ (σ := Nat) 5 (bm 16 0x17df) (fun s_ => [(4, .pointer (some ⟨s_, 0, none⟩))]) (fun s_ w' => (hc9_ w' (ad302.add ((x3_1).toNat * 9)) (.int .i64 ((rd_T76 l0 x3_1).f0.f0)) (.int .i64 ((rd_T76 l0 x3_1).f0.f1)) (.int .i64 ((rd_T76 l0 x3_1).f0.f2)) (.slice A302_3 ((rd_T76 l0 x3_1).f1.f0).length c302_3) (.int .i64 ((rd_T76 l0 x3_1).f1.f1)) (.int .i64 ((rd_T76 l0 x3_1).f1.f2)) (.slice A302_6 ((rd_T76 l0 x3_1).f2.f0).length c302_6) (.int .i64 ((rd_T76 l0 x3_1).f2.f1)) (.int .i64 ((rd_T76 l0 x3_1).f2.f2)) (he9_ w' (ad302.add ((x3_1).toNat * 9)) (.int .i64 ((rd_T76 l0 x3_1).f0.f0)) (.int .i64 ((rd_T76 l0 x3_1).f0.f1)) (.int .i64 ((rd_T76 l0 x3_1).f0.f2)) (.slice A302_3 ((rd_T76 l0 x3_1).f1.f0).length c302_3) (.int .i64 ((rd_T76 l0 x3_1).f1.f1)) (.int .i64 ((rd_T76 l0 x3_1).f1.f2)) (.slice A302_6 ((rd_T76 l0 x3_1).f2.f0).length c302_6) (.int .i64 ((rd_T76 l0 x3_1).f2.f1)) (.int .i64 ((rd_T76 l0 x3_1).f2.f2)))) ∧ (w'.heap[s_]? = some (.cells #[.slice none 0 0, .int .i64 0, .int .i64 0] 30 (0, 0))) ∧ (w.heap.size ≤ s_) ∧ (w.heap.size ≤ s_) ∧ (Below w.heap.size w w')) ?_ ?_
              rotate_left
              ·
               intro hJ12
               refine join_ (σ := Nat) 5 (bm 16 0x27df) (fun s_ => [(5, .pointer (some ⟨s_, 0, none⟩))]) (fun s_ w' => (hc9_ w' (ad302.add ((x3_1).toNat * 9)) (.int .i64 ((rd_T76 l0 x3_1).f0.f0)) (.int .i64 ((rd_T76 l0 x3_1).f0.f1)) (.int .i64 ((rd_T76 l0 x3_1).f0.f2)) (.slice A302_3 ((rd_T76 l0 x3_1).f1.f0).length c302_3) (.int .i64 ((rd_T76 l0 x3_1).f1.f1)) (.int .i64 ((rd_T76 l0 x3_1).f1.f2)) (.slice A302_6 ((rd_T76 l0 x3_1).f2.f0).length c302_6) (.int .i64 ((rd_T76 l0 x3_1).f2.f1)) (.int .i64 ((rd_T76 l0 x3_1).f2.f2)) (he9_ w' (ad302.add ((x3_1).toNat * 9)) (.int .i64 ((rd_T76 l0 x3_1).f0.f0)) (.int .i64 ((rd_T76 l0 x3_1).f0.f1)) (.int .i64 ((rd_T76 l0 x3_1).f0.f2)) (.slice A302_3 ((rd_T76 l0 x3_1).f1.f0).length c302_3) (.int .i64 ((rd_T76 l0 x3_1).f1.f1)) (.int .i64 ((rd_T76 l0 x3_1).f1.f2)) (.slice A302_6 ((rd_T76 l0 x3_1).f2.f0).length c302_6) (.int .i64 ((rd_T76 l0 x3_1).f2.f1)) (.int .i64 ((rd_T76 l0 x3_1).f2.f2)))) ∧ (w'.heap[s_]? = some (.cells #[.slice none 0 0, .int .i64 0, .int .i64 0] 30 (0, 0))) ∧ (w.heap.size ≤ s_) ∧ (w.heap.size ≤ s_) ∧ (Below w.heap.size w w')) ?_ ?_
               rotate_left
               ·
                intro hJ13
                refine three_ (i := 5) (j := 12) (k := 13) (Ni := some 17) (Nj := some 4) (Nk := some 5) (bm 16 0x7ff) (bm 16 0x17df) (bm 16 0x27df) rfl rfl rfl rfl rfl rfl (three_of HT_.out (by kernel_rfl)) (by decide) (by decide) (by decide) (fun K hK => ?_) (fun K hK => ?_) (fun K hK => ?_)
                ·
                 refine goes_ Try.func15 (by kernel_rfl) rfl #[.agg #[.slice A302_3 ((rd_T76 l0 x3_1).f1.f0).length c302_3, .int .i64 ((rd_T76 l0 x3_1).f1.f1), .int .i64 ((rd_T76 l0 x3_1).f1.f2)]] (by rfl) rfl rfl (by (try simp only [List.map_toArray, List.map_cons, List.map_nil]); rfl) ?_
                 with_reducible refine (remontoirlaw03_As.calls (fun k_ => k_ < w.heap.size) _ _ ((rd_T76 l0 x3_1).f1.f0) ((rd_T76 l0 x3_1).f1.f1) ((rd_T76 l0 x3_1).f1.f2) t303 t306 t307 _ ?side1 A4.out).mono ?_
                 (case side1 => exact Kd.V_mk HC302_3.out (Kd.F_below (Kd.C_F (Kd.heap_int .i64) HR302_3.out) HB.out))
                 rintro e w8 ⟨v304, rfl, ho0, hb⟩
                 refine ⟨_, rfl, ?_⟩
                 have n0_ := Aside0.mk (Kd.V_lower (Kd.V_mono (ok' := fun k_ => True) ho0 (fun k_ hk_ => trivial)) (below_size HB.out))
                 have HO305 := n0_; clear n0_; replace HB := hb_ HB hb
                 (try clear hb)
                 (try clear hb2)
                 (try clear hk)
                 (try clear hi)
                 (try clear ho0)
                 refine hK.out _ _ ⟨bc_ HB.out hw302_0, bc_ HB.out hw302_1, bc_ HB.out hw302_2, bc_ HB.out hw302_3, bc_ HB.out hw302_4, bc_ HB.out hw302_5, bc_ HB.out hw302_6, bc_ HB.out hw302_7, bc_ HB.out hw302_8, bc_ HB.out hw308_0, bc_ HB.out hw308_1, bc_ HB.out hw308_2, bc_ HB.out hw308_3, bc_ HB.out hw308_4, bc_ HB.out hw308_5, bc_ HB.out hw308_6, bc_ HB.out hw308_7, bc_ HB.out hw308_8⟩ (fun hHeld => ?_)
                 clear hK K
                 refine nm_ 17 (h := ?_)
                 exact norm_ (by (simp only [putAll, Act.put, sbA, sbB, sbC]; done)) (hJ5 (v304) _ ⟨hHeld, HO305.out, HB.out⟩)
                ·
                 refine box_step ?hg (N := 4) ?hd (cs := #[.slice none 0 0, .int .i64 0, .int .i64 0]) (t := 30) ?hr ?_; (case hd => rfl); (case hg => rfl); (case hr => (go_simp; done))
                 intro gb314 hg w8 hbox hb
                 have n1_ := Aside0.mk (hbox)
                 have n2_ := Aside0.mk ((by rw [hg]; exact (below_size HB.out) : w.heap.size ≤ gb314))
                 have n3_ := Aside0.mk ((by rw [hg]; exact (below_size HB.out) : w.heap.size ≤ gb314))
                 have BK314 := n1_; have GW314 := n2_; have GE314 := n3_; clear n1_ n2_ n3_; replace HB := hb_ HB hb
                 clear hb hbox hg
                 refine hK.out _ _ ⟨bc_ HB.out hw302_0, bc_ HB.out hw302_1, bc_ HB.out hw302_2, bc_ HB.out hw302_3, bc_ HB.out hw302_4, bc_ HB.out hw302_5, bc_ HB.out hw302_6, bc_ HB.out hw302_7, bc_ HB.out hw302_8, bc_ HB.out hw308_0, bc_ HB.out hw308_1, bc_ HB.out hw308_2, bc_ HB.out hw308_3, bc_ HB.out hw308_4, bc_ HB.out hw308_5, bc_ HB.out hw308_6, bc_ HB.out hw308_7, bc_ HB.out hw308_8⟩ (fun hHeld => ?_)
                 clear hK K
                 refine nm_ 4 (h := ?_)
                 exact norm_ (by (simp only [putAll, Act.put, sbA, sbB, sbC]; done)) (hJ12 (gb314) _ ⟨hHeld, BK314.out, GW314.out, GE314.out, HB.out⟩)
                ·
                 refine box_step ?hg (N := 5) ?hd (cs := #[.slice none 0 0, .int .i64 0, .int .i64 0]) (t := 30) ?hr ?_; (case hd => rfl); (case hg => rfl); (case hr => (go_simp; done))
                 intro gb315 hg w8 hbox hb
                 have n1_ := Aside0.mk (hbox)
                 have n2_ := Aside0.mk ((by rw [hg]; exact (below_size HB.out) : w.heap.size ≤ gb315))
                 have n3_ := Aside0.mk ((by rw [hg]; exact (below_size HB.out) : w.heap.size ≤ gb315))
                 have BK315 := n1_; have GW315 := n2_; have GE315 := n3_; clear n1_ n2_ n3_; replace HB := hb_ HB hb
                 clear hb hbox hg
                 refine hK.out _ _ ⟨bc_ HB.out hw302_0, bc_ HB.out hw302_1, bc_ HB.out hw302_2, bc_ HB.out hw302_3, bc_ HB.out hw302_4, bc_ HB.out hw302_5, bc_ HB.out hw302_6, bc_ HB.out hw302_7, bc_ HB.out hw302_8, bc_ HB.out hw308_0, bc_ HB.out hw308_1, bc_ HB.out hw308_2, bc_ HB.out hw308_3, bc_ HB.out hw308_4, bc_ HB.out hw308_5, bc_ HB.out hw308_6, bc_ HB.out hw308_7, bc_ HB.out hw308_8⟩ (fun hHeld => ?_)
                 clear hK K
                 refine nm_ 5 (h := ?_)
                 exact norm_ (by (simp only [putAll, Act.put, sbA, sbB, sbC]; done)) (hJ13 (gb315) _ ⟨hHeld, BK315.out, GW315.out, GE315.out, HB.out⟩)
               ·
                rintro gb315 w9 ⟨hS_, h0_, h1_, h2_, h3_⟩
                have n0_ : Aside0 (w9.heap[gb315]? = some (.cells #[.slice none 0 0, .int .i64 0, .int .i64 0] 30 (0, 0))) := ⟨h0_⟩
                have n1_ : Aside0 (w.heap.size ≤ gb315) := ⟨h1_⟩
                have n2_ : Aside0 (w.heap.size ≤ gb315) := ⟨h2_⟩
                have n3_ : Aside0 (Below w.heap.size w w9) := ⟨h3_⟩
                clear HB
                clear h0_ h1_ h2_ h3_
                have BK315 := n0_
                have GW315 := n1_
                have GE315 := n2_
                have HB := n3_
                clear n0_ n1_ n2_ n3_
                have hHeld : hc9_ w9 (ad302.add ((x3_1).toNat * 9)) (.int .i64 ((rd_T76 l0 x3_1).f0.f0)) (.int .i64 ((rd_T76 l0 x3_1).f0.f1)) (.int .i64 ((rd_T76 l0 x3_1).f0.f2)) (.slice A302_3 ((rd_T76 l0 x3_1).f1.f0).length c302_3) (.int .i64 ((rd_T76 l0 x3_1).f1.f1)) (.int .i64 ((rd_T76 l0 x3_1).f1.f2)) (.slice A302_6 ((rd_T76 l0 x3_1).f2.f0).length c302_6) (.int .i64 ((rd_T76 l0 x3_1).f2.f1)) (.int .i64 ((rd_T76 l0 x3_1).f2.f2)) (he9_ w9 (ad302.add ((x3_1).toNat * 9)) (.int .i64 ((rd_T76 l0 x3_1).f0.f0)) (.int .i64 ((rd_T76 l0 x3_1).f0.f1)) (.int .i64 ((rd_T76 l0 x3_1).f0.f2)) (.slice A302_3 ((rd_T76 l0 x3_1).f1.f0).length c302_3) (.int .i64 ((rd_T76 l0 x3_1).f1.f1)) (.int .i64 ((rd_T76 l0 x3_1).f1.f2)) (.slice A302_6 ((rd_T76 l0 x3_1).f2.f0).length c302_6) (.int .i64 ((rd_T76 l0 x3_1).f2.f1)) (.int .i64 ((rd_T76 l0 x3_1).f2.f2))) := hS_
                refine norm_ (a' := ?_) ?_ ?_
                rotate_left
                ·
                 simp only [putAll, Act.put, sbA, sbB, sbC]
                 rfl
                refine two_ (i := 5) (j := 12) (Ni := some 17) (Nj := some 4) (bm 16 0x27ff) (bm 16 0x37df) rfl rfl rfl rfl (two_of HT_.out (by kernel_rfl)) (by decide) (by decide) (fun K hK => ?_) (fun K hK => ?_)
                ·
                 refine goes_ Try.func15 (by kernel_rfl) rfl #[.agg #[.slice A302_3 ((rd_T76 l0 x3_1).f1.f0).length c302_3, .int .i64 ((rd_T76 l0 x3_1).f1.f1), .int .i64 ((rd_T76 l0 x3_1).f1.f2)]] (by rfl) rfl rfl (by (try simp only [List.map_toArray, List.map_cons, List.map_nil]); rfl) ?_
                 with_reducible refine (remontoirlaw03_As.calls (fun k_ => k_ < w.heap.size) _ _ ((rd_T76 l0 x3_1).f1.f0) ((rd_T76 l0 x3_1).f1.f1) ((rd_T76 l0 x3_1).f1.f2) t303 t306 t307 _ ?side1 A4.out).mono ?_
                 (case side1 => exact Kd.V_mk HC302_3.out (Kd.F_below (Kd.C_F (Kd.heap_int .i64) HR302_3.out) HB.out))
                 rintro e w10 ⟨v304, rfl, ho0, hb⟩
                 refine ⟨_, rfl, ?_⟩
                 have n0_ := Aside0.mk (Kd.V_lower (Kd.V_mono (ok' := fun k_ => k_ ≠ gb315) ho0 (fun k_ hk_ => Or.elim hk_ (fun hs_ => fun e_ => Nat.not_le.2 hs_ (by rw [e_]; exact GW315.out)) (fun hn_ => (Kd.freshB BK315.out k_ hn_)))) (below_size HB.out))
                 have HO305 := n0_; clear n0_; replace BK315 := kb_ BK315 hb; replace HB := hb_ HB hb
                 (try clear hb)
                 (try clear hb2)
                 (try clear hk)
                 (try clear hi)
                 (try clear ho0)
                 refine hK.out _ _ ⟨bc_ HB.out hw302_0, bc_ HB.out hw302_1, bc_ HB.out hw302_2, bc_ HB.out hw302_3, bc_ HB.out hw302_4, bc_ HB.out hw302_5, bc_ HB.out hw302_6, bc_ HB.out hw302_7, bc_ HB.out hw302_8, bc_ HB.out hw308_0, bc_ HB.out hw308_1, bc_ HB.out hw308_2, bc_ HB.out hw308_3, bc_ HB.out hw308_4, bc_ HB.out hw308_5, bc_ HB.out hw308_6, bc_ HB.out hw308_7, bc_ HB.out hw308_8⟩ (fun hHeld => ?_)
                 clear hK K
                 refine nm_ 17 (h := ?_)
                 exact norm_ (by (simp only [putAll, Act.put, sbA, sbB, sbC]; done)) (hJ5_13 (v304, gb315) _ ⟨hHeld, HO305.out, BK315.out, GW315.out, GE315.out, HB.out⟩)
                ·
                 refine box_step ?hg (N := 4) ?hd (cs := #[.slice none 0 0, .int .i64 0, .int .i64 0]) (t := 30) ?hr ?_; (case hd => rfl); (case hg => rfl); (case hr => (go_simp; done))
                 intro gb314 hg w10 hbox hb
                 have n2_ := Aside0.mk (hbox)
                 have n3_ := Aside0.mk ((by rw [hg]; exact (below_size HB.out) : w.heap.size ≤ gb314))
                 have n4_ := Aside0.mk ((by rw [hg]; exact (below_size HB.out) : w.heap.size ≤ gb314))
                 have n5_ := Aside0.mk ((by rw [hg]; exact Nat.ne_of_lt (blk_lt BK315.out) : gb315 ≠ gb314))
                 have n6_ := Aside0.mk ((by rw [hg]; exact Nat.ne_of_gt (blk_lt BK315.out) : gb314 ≠ gb315))
                 have BK314 := n2_; have GW314 := n3_; have GE314 := n4_; have NB315_314 := n5_; have NB314_315 := n6_; clear n2_ n3_ n4_ n5_ n6_; replace BK315 := kb_ BK315 hb; replace HB := hb_ HB hb
                 clear hb hbox hg
                 refine hK.out _ _ ⟨bc_ HB.out hw302_0, bc_ HB.out hw302_1, bc_ HB.out hw302_2, bc_ HB.out hw302_3, bc_ HB.out hw302_4, bc_ HB.out hw302_5, bc_ HB.out hw302_6, bc_ HB.out hw302_7, bc_ HB.out hw302_8, bc_ HB.out hw308_0, bc_ HB.out hw308_1, bc_ HB.out hw308_2, bc_ HB.out hw308_3, bc_ HB.out hw308_4, bc_ HB.out hw308_5, bc_ HB.out hw308_6, bc_ HB.out hw308_7, bc_ HB.out hw308_8⟩ (fun hHeld => ?_)
                 clear hK K
                 refine nm_ 4 (h := ?_)
                 exact norm_ (by (simp only [putAll, Act.put, sbA, sbB, sbC]; done)) (hJ12_13 (gb314, gb315) _ ⟨hHeld, BK314.out, BK315.out, GW314.out, GE314.out, NB315_314.out, NB314_315.out, GW315.out, GE315.out, HB.out⟩)
              ·
               rintro gb314 w9 ⟨hS_, h0_, h1_, h2_, h3_⟩
               have n0_ : Aside0 (w9.heap[gb314]? = some (.cells #[.slice none 0 0, .int .i64 0, .int .i64 0] 30 (0, 0))) := ⟨h0_⟩
               have n1_ : Aside0 (w.heap.size ≤ gb314) := ⟨h1_⟩
               have n2_ : Aside0 (w.heap.size ≤ gb314) := ⟨h2_⟩
               have n3_ : Aside0 (Below w.heap.size w w9) := ⟨h3_⟩
               clear HB
               clear h0_ h1_ h2_ h3_
               have BK314 := n0_
               have GW314 := n1_
               have GE314 := n2_
               have HB := n3_
               clear n0_ n1_ n2_ n3_
               have hHeld : hc9_ w9 (ad302.add ((x3_1).toNat * 9)) (.int .i64 ((rd_T76 l0 x3_1).f0.f0)) (.int .i64 ((rd_T76 l0 x3_1).f0.f1)) (.int .i64 ((rd_T76 l0 x3_1).f0.f2)) (.slice A302_3 ((rd_T76 l0 x3_1).f1.f0).length c302_3) (.int .i64 ((rd_T76 l0 x3_1).f1.f1)) (.int .i64 ((rd_T76 l0 x3_1).f1.f2)) (.slice A302_6 ((rd_T76 l0 x3_1).f2.f0).length c302_6) (.int .i64 ((rd_T76 l0 x3_1).f2.f1)) (.int .i64 ((rd_T76 l0 x3_1).f2.f2)) (he9_ w9 (ad302.add ((x3_1).toNat * 9)) (.int .i64 ((rd_T76 l0 x3_1).f0.f0)) (.int .i64 ((rd_T76 l0 x3_1).f0.f1)) (.int .i64 ((rd_T76 l0 x3_1).f0.f2)) (.slice A302_3 ((rd_T76 l0 x3_1).f1.f0).length c302_3) (.int .i64 ((rd_T76 l0 x3_1).f1.f1)) (.int .i64 ((rd_T76 l0 x3_1).f1.f2)) (.slice A302_6 ((rd_T76 l0 x3_1).f2.f0).length c302_6) (.int .i64 ((rd_T76 l0 x3_1).f2.f1)) (.int .i64 ((rd_T76 l0 x3_1).f2.f2))) := hS_
               refine norm_ (a' := ?_) ?_ ?_
               rotate_left
               ·
                simp only [putAll, Act.put, sbA, sbB, sbC]
                rfl
               refine two_ (i := 5) (j := 13) (Ni := some 17) (Nj := some 5) (bm 16 0x17ff) (bm 16 0x37df) rfl rfl rfl rfl (two_of HT_.out (by kernel_rfl)) (by decide) (by decide) (fun K hK => ?_) (fun K hK => ?_)
               ·
                refine goes_ Try.func15 (by kernel_rfl) rfl #[.agg #[.slice A302_3 ((rd_T76 l0 x3_1).f1.f0).length c302_3, .int .i64 ((rd_T76 l0 x3_1).f1.f1), .int .i64 ((rd_T76 l0 x3_1).f1.f2)]] (by rfl) rfl rfl (by (try simp only [List.map_toArray, List.map_cons, List.map_nil]); rfl) ?_
                with_reducible refine (remontoirlaw03_As.calls (fun k_ => k_ < w.heap.size) _ _ ((rd_T76 l0 x3_1).f1.f0) ((rd_T76 l0 x3_1).f1.f1) ((rd_T76 l0 x3_1).f1.f2) t303 t306 t307 _ ?side1 A4.out).mono ?_
                (case side1 => exact Kd.V_mk HC302_3.out (Kd.F_below (Kd.C_F (Kd.heap_int .i64) HR302_3.out) HB.out))
                rintro e w10 ⟨v304, rfl, ho0, hb⟩
                refine ⟨_, rfl, ?_⟩
                have n0_ := Aside0.mk (Kd.V_lower (Kd.V_mono (ok' := fun k_ => k_ ≠ gb314) ho0 (fun k_ hk_ => Or.elim hk_ (fun hs_ => fun e_ => Nat.not_le.2 hs_ (by rw [e_]; exact GW314.out)) (fun hn_ => (Kd.freshB BK314.out k_ hn_)))) (below_size HB.out))
                have HO305 := n0_; clear n0_; replace BK314 := kb_ BK314 hb; replace HB := hb_ HB hb
                (try clear hb)
                (try clear hb2)
                (try clear hk)
                (try clear hi)
                (try clear ho0)
                refine hK.out _ _ ⟨bc_ HB.out hw302_0, bc_ HB.out hw302_1, bc_ HB.out hw302_2, bc_ HB.out hw302_3, bc_ HB.out hw302_4, bc_ HB.out hw302_5, bc_ HB.out hw302_6, bc_ HB.out hw302_7, bc_ HB.out hw302_8, bc_ HB.out hw308_0, bc_ HB.out hw308_1, bc_ HB.out hw308_2, bc_ HB.out hw308_3, bc_ HB.out hw308_4, bc_ HB.out hw308_5, bc_ HB.out hw308_6, bc_ HB.out hw308_7, bc_ HB.out hw308_8⟩ (fun hHeld => ?_)
                clear hK K
                refine nm_ 17 (h := ?_)
                exact norm_ (by (simp only [putAll, Act.put, sbA, sbB, sbC]; done)) (hJ5_12 (v304, gb314) _ ⟨hHeld, HO305.out, BK314.out, GW314.out, GE314.out, HB.out⟩)
               ·
                refine box_step ?hg (N := 5) ?hd (cs := #[.slice none 0 0, .int .i64 0, .int .i64 0]) (t := 30) ?hr ?_; (case hd => rfl); (case hg => rfl); (case hr => (go_simp; done))
                intro gb315 hg w10 hbox hb
                have n2_ := Aside0.mk (hbox)
                have n3_ := Aside0.mk ((by rw [hg]; exact (below_size HB.out) : w.heap.size ≤ gb315))
                have n4_ := Aside0.mk ((by rw [hg]; exact (below_size HB.out) : w.heap.size ≤ gb315))
                have n5_ := Aside0.mk ((by rw [hg]; exact Nat.ne_of_lt (blk_lt BK314.out) : gb314 ≠ gb315))
                have n6_ := Aside0.mk ((by rw [hg]; exact Nat.ne_of_gt (blk_lt BK314.out) : gb315 ≠ gb314))
                have BK315 := n2_; have GW315 := n3_; have GE315 := n4_; have NB314_315 := n5_; have NB315_314 := n6_; clear n2_ n3_ n4_ n5_ n6_; replace BK314 := kb_ BK314 hb; replace HB := hb_ HB hb
                clear hb hbox hg
                refine hK.out _ _ ⟨bc_ HB.out hw302_0, bc_ HB.out hw302_1, bc_ HB.out hw302_2, bc_ HB.out hw302_3, bc_ HB.out hw302_4, bc_ HB.out hw302_5, bc_ HB.out hw302_6, bc_ HB.out hw302_7, bc_ HB.out hw302_8, bc_ HB.out hw308_0, bc_ HB.out hw308_1, bc_ HB.out hw308_2, bc_ HB.out hw308_3, bc_ HB.out hw308_4, bc_ HB.out hw308_5, bc_ HB.out hw308_6, bc_ HB.out hw308_7, bc_ HB.out hw308_8⟩ (fun hHeld => ?_)
                clear hK K
                refine nm_ 5 (h := ?_)
                exact norm_ (by (simp only [putAll, Act.put, sbA, sbB, sbC]; done)) (hJ12_13 (gb314, gb315) _ ⟨hHeld, BK314.out, BK315.out, GW314.out, GE314.out, NB315_314.out, NB314_315.out, GW315.out, GE315.out, HB.out⟩)
             ·
              rintro v304 w9 ⟨hS_, h0_, h1_⟩
              have n0_ : Aside0 (Kd.V (Kd.int .i64) 3 w9 w.heap.size (fun _ => True) v304 t303) := ⟨h0_⟩
              have n1_ : Aside0 (Below w.heap.size w w9) := ⟨h1_⟩
              clear HB
              clear h0_ h1_
              have HO305 := n0_
              have HB := n1_
              clear n0_ n1_
              have hHeld : hc9_ w9 (ad302.add ((x3_1).toNat * 9)) (.int .i64 ((rd_T76 l0 x3_1).f0.f0)) (.int .i64 ((rd_T76 l0 x3_1).f0.f1)) (.int .i64 ((rd_T76 l0 x3_1).f0.f2)) (.slice A302_3 ((rd_T76 l0 x3_1).f1.f0).length c302_3) (.int .i64 ((rd_T76 l0 x3_1).f1.f1)) (.int .i64 ((rd_T76 l0 x3_1).f1.f2)) (.slice A302_6 ((rd_T76 l0 x3_1).f2.f0).length c302_6) (.int .i64 ((rd_T76 l0 x3_1).f2.f1)) (.int .i64 ((rd_T76 l0 x3_1).f2.f2)) (he9_ w9 (ad302.add ((x3_1).toNat * 9)) (.int .i64 ((rd_T76 l0 x3_1).f0.f0)) (.int .i64 ((rd_T76 l0 x3_1).f0.f1)) (.int .i64 ((rd_T76 l0 x3_1).f0.f2)) (.slice A302_3 ((rd_T76 l0 x3_1).f1.f0).length c302_3) (.int .i64 ((rd_T76 l0 x3_1).f1.f1)) (.int .i64 ((rd_T76 l0 x3_1).f1.f2)) (.slice A302_6 ((rd_T76 l0 x3_1).f2.f0).length c302_6) (.int .i64 ((rd_T76 l0 x3_1).f2.f1)) (.int .i64 ((rd_T76 l0 x3_1).f2.f2))) := hS_
              refine norm_ (a' := ?_) ?_ ?_
              rotate_left
              ·
               simp only [putAll, Act.put, sbA, sbB, sbC]
               rfl
              refine three_ (i := 11) (j := 12) (k := 13) (Ni := some 23) (Nj := some 4) (Nk := some 5) (bm 16 0xfff) (bm 16 0x17ff) (bm 16 0x27ff) rfl rfl rfl rfl rfl rfl (three_of HT_.out (by kernel_rfl)) (by decide) (by decide) (by decide) (fun K hK => ?_) (fun K hK => ?_) (fun K hK => ?_)
              ·
               refine goes_ Try.func15 (by kernel_rfl) rfl #[.agg #[.slice A302_6 ((rd_T76 l0 x3_1).f2.f0).length c302_6, .int .i64 ((rd_T76 l0 x3_1).f2.f1), .int .i64 ((rd_T76 l0 x3_1).f2.f2)]] (by rfl) rfl rfl (by (try simp only [List.map_toArray, List.map_cons, List.map_nil]); rfl) ?_
               with_reducible refine (remontoirlaw03_As.calls (fun k_ => k_ < w.heap.size) _ _ ((rd_T76 l0 x3_1).f2.f0) ((rd_T76 l0 x3_1).f2.f1) ((rd_T76 l0 x3_1).f2.f2) t309 t312 t313 _ ?side1 A5.out).mono ?_
               (case side1 => exact Kd.V_mk HC308_6.out (Kd.F_below (Kd.C_F (Kd.heap_int .i64) HR308_6.out) HB.out))
               rintro e w10 ⟨v310, rfl, ho0, hb⟩
               refine ⟨_, rfl, ?_⟩
               have n1_ := Aside0.mk (Kd.V_lower (Kd.V_mono (ok' := fun k_ => True) ho0 (fun k_ hk_ => trivial)) (below_size HB.out))
               have HO311 := n1_; clear n1_; replace HO305 := vb_ HO305 hb; replace HB := hb_ HB hb
               (try clear hb)
               (try clear hb2)
               (try clear hk)
               (try clear hi)
               (try clear ho0)
               refine hK.out _ _ ⟨bc_ HB.out hw302_0, bc_ HB.out hw302_1, bc_ HB.out hw302_2, bc_ HB.out hw302_3, bc_ HB.out hw302_4, bc_ HB.out hw302_5, bc_ HB.out hw302_6, bc_ HB.out hw302_7, bc_ HB.out hw302_8, bc_ HB.out hw308_0, bc_ HB.out hw308_1, bc_ HB.out hw308_2, bc_ HB.out hw308_3, bc_ HB.out hw308_4, bc_ HB.out hw308_5, bc_ HB.out hw308_6, bc_ HB.out hw308_7, bc_ HB.out hw308_8⟩ (fun hHeld => ?_)
               clear hK K
               refine nm_ 23 (h := ?_)
               exact norm_ (by (simp only [putAll, Act.put, sbA, sbB, sbC]; done)) (hJ5_11 (v304, v310) _ ⟨hHeld, HO305.out, HO311.out, HB.out⟩)
              ·
               refine box_step ?hg (N := 4) ?hd (cs := #[.slice none 0 0, .int .i64 0, .int .i64 0]) (t := 30) ?hr ?_; (case hd => rfl); (case hg => rfl); (case hr => (go_simp; done))
               intro gb314 hg w10 hbox hb
               have n0_ := Aside0.mk (Kd.V_below (Kd.V_elderB HO305.out gb314 (Nat.le_of_eq hg.symm)) hb)
               have n2_ := Aside0.mk (hbox)
               have n3_ := Aside0.mk ((by rw [hg]; exact (below_size HB.out) : w.heap.size ≤ gb314))
               have n4_ := Aside0.mk ((by rw [hg]; exact (below_size HB.out) : w.heap.size ≤ gb314))
               clear HO305; have HO305 := n0_; have BK314 := n2_; have GW314 := n3_; have GE314 := n4_; clear n0_ n2_ n3_ n4_; replace HB := hb_ HB hb
               clear hb hbox hg
               refine hK.out _ _ ⟨bc_ HB.out hw302_0, bc_ HB.out hw302_1, bc_ HB.out hw302_2, bc_ HB.out hw302_3, bc_ HB.out hw302_4, bc_ HB.out hw302_5, bc_ HB.out hw302_6, bc_ HB.out hw302_7, bc_ HB.out hw302_8, bc_ HB.out hw308_0, bc_ HB.out hw308_1, bc_ HB.out hw308_2, bc_ HB.out hw308_3, bc_ HB.out hw308_4, bc_ HB.out hw308_5, bc_ HB.out hw308_6, bc_ HB.out hw308_7, bc_ HB.out hw308_8⟩ (fun hHeld => ?_)
               clear hK K
               refine nm_ 4 (h := ?_)
               exact norm_ (by (simp only [putAll, Act.put, sbA, sbB, sbC]; done)) (hJ5_12 (v304, gb314) _ ⟨hHeld, (by exact Kd.V_mono HO305.out (fun _ hk => hk.2)), BK314.out, GW314.out, GE314.out, HB.out⟩)
              ·
               refine box_step ?hg (N := 5) ?hd (cs := #[.slice none 0 0, .int .i64 0, .int .i64 0]) (t := 30) ?hr ?_; (case hd => rfl); (case hg => rfl); (case hr => (go_simp; done))
               intro gb315 hg w10 hbox hb
               have n0_ := Aside0.mk (Kd.V_below (Kd.V_elderB HO305.out gb315 (Nat.le_of_eq hg.symm)) hb)
               have n2_ := Aside0.mk (hbox)
               have n3_ := Aside0.mk ((by rw [hg]; exact (below_size HB.out) : w.heap.size ≤ gb315))
               have n4_ := Aside0.mk ((by rw [hg]; exact (below_size HB.out) : w.heap.size ≤ gb315))
               clear HO305; have HO305 := n0_; have BK315 := n2_; have GW315 := n3_; have GE315 := n4_; clear n0_ n2_ n3_ n4_; replace HB := hb_ HB hb
               clear hb hbox hg
               refine hK.out _ _ ⟨bc_ HB.out hw302_0, bc_ HB.out hw302_1, bc_ HB.out hw302_2, bc_ HB.out hw302_3, bc_ HB.out hw302_4, bc_ HB.out hw302_5, bc_ HB.out hw302_6, bc_ HB.out hw302_7, bc_ HB.out hw302_8, bc_ HB.out hw308_0, bc_ HB.out hw308_1, bc_ HB.out hw308_2, bc_ HB.out hw308_3, bc_ HB.out hw308_4, bc_ HB.out hw308_5, bc_ HB.out hw308_6, bc_ HB.out hw308_7, bc_ HB.out hw308_8⟩ (fun hHeld => ?_)
               clear hK K
               refine nm_ 5 (h := ?_)
               exact norm_ (by (simp only [putAll, Act.put, sbA, sbB, sbC]; done)) (hJ5_13 (v304, gb315) _ ⟨hHeld, (by exact Kd.V_mono HO305.out (fun _ hk => hk.2)), BK315.out, GW315.out, GE315.out, HB.out⟩)
            ·
             rintro ⟨gb314, gb315⟩ w10 ⟨hS_, h0_, h1_, h2_, h3_, h4_, h5_, h6_, h7_, h8_⟩
             have n0_ : Aside0 (w10.heap[gb314]? = some (.cells #[.slice none 0 0, .int .i64 0, .int .i64 0] 30 (0, 0))) := ⟨h0_⟩
             have n1_ : Aside0 (w10.heap[gb315]? = some (.cells #[.slice none 0 0, .int .i64 0, .int .i64 0] 30 (0, 0))) := ⟨h1_⟩
             have n2_ : Aside0 (w.heap.size ≤ gb314) := ⟨h2_⟩
             have n3_ : Aside0 (w.heap.size ≤ gb314) := ⟨h3_⟩
             have n4_ : Aside0 (gb315 ≠ gb314) := ⟨h4_⟩
             have n5_ : Aside0 (gb314 ≠ gb315) := ⟨h5_⟩
             have n6_ : Aside0 (w.heap.size ≤ gb315) := ⟨h6_⟩
             have n7_ : Aside0 (w.heap.size ≤ gb315) := ⟨h7_⟩
             have n8_ : Aside0 (Below w.heap.size w w10) := ⟨h8_⟩
             clear HB
             clear h0_ h1_ h2_ h3_ h4_ h5_ h6_ h7_ h8_
             have BK314 := n0_
             have BK315 := n1_
             have GW314 := n2_
             have GE314 := n3_
             have NB315_314 := n4_
             have NB314_315 := n5_
             have GW315 := n6_
             have GE315 := n7_
             have HB := n8_
             clear n0_ n1_ n2_ n3_ n4_ n5_ n6_ n7_ n8_
             have hHeld : hc9_ w10 (ad302.add ((x3_1).toNat * 9)) (.int .i64 ((rd_T76 l0 x3_1).f0.f0)) (.int .i64 ((rd_T76 l0 x3_1).f0.f1)) (.int .i64 ((rd_T76 l0 x3_1).f0.f2)) (.slice A302_3 ((rd_T76 l0 x3_1).f1.f0).length c302_3) (.int .i64 ((rd_T76 l0 x3_1).f1.f1)) (.int .i64 ((rd_T76 l0 x3_1).f1.f2)) (.slice A302_6 ((rd_T76 l0 x3_1).f2.f0).length c302_6) (.int .i64 ((rd_T76 l0 x3_1).f2.f1)) (.int .i64 ((rd_T76 l0 x3_1).f2.f2)) (he9_ w10 (ad302.add ((x3_1).toNat * 9)) (.int .i64 ((rd_T76 l0 x3_1).f0.f0)) (.int .i64 ((rd_T76 l0 x3_1).f0.f1)) (.int .i64 ((rd_T76 l0 x3_1).f0.f2)) (.slice A302_3 ((rd_T76 l0 x3_1).f1.f0).length c302_3) (.int .i64 ((rd_T76 l0 x3_1).f1.f1)) (.int .i64 ((rd_T76 l0 x3_1).f1.f2)) (.slice A302_6 ((rd_T76 l0 x3_1).f2.f0).length c302_6) (.int .i64 ((rd_T76 l0 x3_1).f2.f1)) (.int .i64 ((rd_T76 l0 x3_1).f2.f2))) := hS_
             refine norm_ (a' := ?_) ?_ ?_
             rotate_left
             ·
              simp only [putAll, Act.put, sbA, sbB, sbC]
              rfl
             refine one_ (i := 5) (N := some 17) (bm 16 0x37ff) rfl rfl (one_of HT_.out (by kernel_rfl)) (by decide) (fun K hK => ?_)
             refine goes_ Try.func15 (by kernel_rfl) rfl #[.agg #[.slice A302_3 ((rd_T76 l0 x3_1).f1.f0).length c302_3, .int .i64 ((rd_T76 l0 x3_1).f1.f1), .int .i64 ((rd_T76 l0 x3_1).f1.f2)]] (by rfl) rfl rfl (by (try simp only [List.map_toArray, List.map_cons, List.map_nil]); rfl) ?_
             with_reducible refine (remontoirlaw03_As.calls (fun k_ => k_ < w.heap.size) _ _ ((rd_T76 l0 x3_1).f1.f0) ((rd_T76 l0 x3_1).f1.f1) ((rd_T76 l0 x3_1).f1.f2) t303 t306 t307 _ ?side1 A4.out).mono ?_
             (case side1 => exact Kd.V_mk HC302_3.out (Kd.F_below (Kd.C_F (Kd.heap_int .i64) HR302_3.out) HB.out))
             rintro e w11 ⟨v304, rfl, ho0, hb⟩
             refine ⟨_, rfl, ?_⟩
             have n0_ := Aside0.mk (Kd.V_lower (Kd.V_mono (ok' := fun k_ => k_ ≠ gb314 ∧ k_ ≠ gb315) ho0 (fun k_ hk_ => ⟨Or.elim hk_ (fun hs_ => fun e_ => Nat.not_le.2 hs_ (by rw [e_]; exact GW314.out)) (fun hn_ => (Kd.freshB BK314.out k_ hn_)), Or.elim hk_ (fun hs_ => fun e_ => Nat.not_le.2 hs_ (by rw [e_]; exact GW315.out)) (fun hn_ => (Kd.freshB BK315.out k_ hn_))⟩)) (below_size HB.out))
             have HO305 := n0_; clear n0_; replace BK314 := kb_ BK314 hb; replace BK315 := kb_ BK315 hb; replace HB := hb_ HB hb
             (try clear hb)
             (try clear hb2)
             (try clear hk)
             (try clear hi)
             (try clear ho0)
             refine hK.out _ _ ⟨bc_ HB.out hw302_0, bc_ HB.out hw302_1, bc_ HB.out hw302_2, bc_ HB.out hw302_3, bc_ HB.out hw302_4, bc_ HB.out hw302_5, bc_ HB.out hw302_6, bc_ HB.out hw302_7, bc_ HB.out hw302_8, bc_ HB.out hw308_0, bc_ HB.out hw308_1, bc_ HB.out hw308_2, bc_ HB.out hw308_3, bc_ HB.out hw308_4, bc_ HB.out hw308_5, bc_ HB.out hw308_6, bc_ HB.out hw308_7, bc_ HB.out hw308_8⟩ (fun hHeld => ?_)
             clear hK K
             refine nm_ 17 (h := ?_)
             exact norm_ (by (simp only [putAll, Act.put, sbA, sbB, sbC]; done)) (hJ5_12_13 (v304, gb314, gb315) _ ⟨hHeld, HO305.out, BK314.out, BK315.out, GW314.out, GE314.out, NB315_314.out, NB314_315.out, GW315.out, GE315.out, HB.out⟩)
           ·
            rintro ⟨v304, gb315⟩ w10 ⟨hS_, h0_, h1_, h2_, h3_, h4_⟩
            have n0_ : Aside0 (Kd.V (Kd.int .i64) 3 w10 w.heap.size (fun k_ => k_ ≠ gb315) v304 t303) := ⟨h0_⟩
            have n1_ : Aside0 (w10.heap[gb315]? = some (.cells #[.slice none 0 0, .int .i64 0, .int .i64 0] 30 (0, 0))) := ⟨h1_⟩
            have n2_ : Aside0 (w.heap.size ≤ gb315) := ⟨h2_⟩
            have n3_ : Aside0 (w.heap.size ≤ gb315) := ⟨h3_⟩
            have n4_ : Aside0 (Below w.heap.size w w10) := ⟨h4_⟩
            clear HB
            clear h0_ h1_ h2_ h3_ h4_
            have HO305 := n0_
            have BK315 := n1_
            have GW315 := n2_
            have GE315 := n3_
            have HB := n4_
            clear n0_ n1_ n2_ n3_ n4_
            have hHeld : hc9_ w10 (ad302.add ((x3_1).toNat * 9)) (.int .i64 ((rd_T76 l0 x3_1).f0.f0)) (.int .i64 ((rd_T76 l0 x3_1).f0.f1)) (.int .i64 ((rd_T76 l0 x3_1).f0.f2)) (.slice A302_3 ((rd_T76 l0 x3_1).f1.f0).length c302_3) (.int .i64 ((rd_T76 l0 x3_1).f1.f1)) (.int .i64 ((rd_T76 l0 x3_1).f1.f2)) (.slice A302_6 ((rd_T76 l0 x3_1).f2.f0).length c302_6) (.int .i64 ((rd_T76 l0 x3_1).f2.f1)) (.int .i64 ((rd_T76 l0 x3_1).f2.f2)) (he9_ w10 (ad302.add ((x3_1).toNat * 9)) (.int .i64 ((rd_T76 l0 x3_1).f0.f0)) (.int .i64 ((rd_T76 l0 x3_1).f0.f1)) (.int .i64 ((rd_T76 l0 x3_1).f0.f2)) (.slice A302_3 ((rd_T76 l0 x3_1).f1.f0).length c302_3) (.int .i64 ((rd_T76 l0 x3_1).f1.f1)) (.int .i64 ((rd_T76 l0 x3_1).f1.f2)) (.slice A302_6 ((rd_T76 l0 x3_1).f2.f0).length c302_6) (.int .i64 ((rd_T76 l0 x3_1).f2.f1)) (.int .i64 ((rd_T76 l0 x3_1).f2.f2))) := hS_
            refine norm_ (a' := ?_) ?_ ?_
            rotate_left
            ·
             simp only [putAll, Act.put, sbA, sbB, sbC]
             rfl
            refine two_ (i := 11) (j := 12) (Ni := some 23) (Nj := some 4) (bm 16 0x2fff) (bm 16 0x37ff) rfl rfl rfl rfl (two_of HT_.out (by kernel_rfl)) (by decide) (by decide) (fun K hK => ?_) (fun K hK => ?_)
            ·
             refine goes_ Try.func15 (by kernel_rfl) rfl #[.agg #[.slice A302_6 ((rd_T76 l0 x3_1).f2.f0).length c302_6, .int .i64 ((rd_T76 l0 x3_1).f2.f1), .int .i64 ((rd_T76 l0 x3_1).f2.f2)]] (by rfl) rfl rfl (by (try simp only [List.map_toArray, List.map_cons, List.map_nil]); rfl) ?_
             with_reducible refine (remontoirlaw03_As.calls (fun k_ => k_ < w.heap.size) _ _ ((rd_T76 l0 x3_1).f2.f0) ((rd_T76 l0 x3_1).f2.f1) ((rd_T76 l0 x3_1).f2.f2) t309 t312 t313 _ ?side1 A5.out).mono ?_
             (case side1 => exact Kd.V_mk HC308_6.out (Kd.F_below (Kd.C_F (Kd.heap_int .i64) HR308_6.out) HB.out))
             rintro e w11 ⟨v310, rfl, ho0, hb⟩
             refine ⟨_, rfl, ?_⟩
             have n1_ := Aside0.mk (Kd.V_lower (Kd.V_mono (ok' := fun k_ => k_ ≠ gb315) ho0 (fun k_ hk_ => Or.elim hk_ (fun hs_ => fun e_ => Nat.not_le.2 hs_ (by rw [e_]; exact GW315.out)) (fun hn_ => (Kd.freshB BK315.out k_ hn_)))) (below_size HB.out))
             have HO311 := n1_; clear n1_; replace HO305 := vb_ HO305 hb; replace BK315 := kb_ BK315 hb; replace HB := hb_ HB hb
             (try clear hb)
             (try clear hb2)
             (try clear hk)
             (try clear hi)
             (try clear ho0)
             refine hK.out _ _ ⟨bc_ HB.out hw302_0, bc_ HB.out hw302_1, bc_ HB.out hw302_2, bc_ HB.out hw302_3, bc_ HB.out hw302_4, bc_ HB.out hw302_5, bc_ HB.out hw302_6, bc_ HB.out hw302_7, bc_ HB.out hw302_8, bc_ HB.out hw308_0, bc_ HB.out hw308_1, bc_ HB.out hw308_2, bc_ HB.out hw308_3, bc_ HB.out hw308_4, bc_ HB.out hw308_5, bc_ HB.out hw308_6, bc_ HB.out hw308_7, bc_ HB.out hw308_8⟩ (fun hHeld => ?_)
             clear hK K
             refine nm_ 23 (h := ?_)
             exact norm_ (by (simp only [putAll, Act.put, sbA, sbB, sbC]; done)) (hJ5_11_13 (v304, v310, gb315) _ ⟨hHeld, HO305.out, HO311.out, BK315.out, GW315.out, GE315.out, HB.out⟩)
            ·
             refine box_step ?hg (N := 4) ?hd (cs := #[.slice none 0 0, .int .i64 0, .int .i64 0]) (t := 30) ?hr ?_; (case hd => rfl); (case hg => rfl); (case hr => (go_simp; done))
             intro gb314 hg w11 hbox hb
             have n0_ := Aside0.mk (Kd.V_below (Kd.V_elderB HO305.out gb314 (Nat.le_of_eq hg.symm)) hb)
             have n3_ := Aside0.mk (hbox)
             have n4_ := Aside0.mk ((by rw [hg]; exact (below_size HB.out) : w.heap.size ≤ gb314))
             have n5_ := Aside0.mk ((by rw [hg]; exact (below_size HB.out) : w.heap.size ≤ gb314))
             have n6_ := Aside0.mk ((by rw [hg]; exact Nat.ne_of_lt (blk_lt BK315.out) : gb315 ≠ gb314))
             have n7_ := Aside0.mk ((by rw [hg]; exact Nat.ne_of_gt (blk_lt BK315.out) : gb314 ≠ gb315))
             clear HO305; have HO305 := n0_; have BK314 := n3_; have GW314 := n4_; have GE314 := n5_; have NB315_314 := n6_; have NB314_315 := n7_; clear n0_ n3_ n4_ n5_ n6_ n7_; replace BK315 := kb_ BK315 hb; replace HB := hb_ HB hb
             clear hb hbox hg
             refine hK.out _ _ ⟨bc_ HB.out hw302_0, bc_ HB.out hw302_1, bc_ HB.out hw302_2, bc_ HB.out hw302_3, bc_ HB.out hw302_4, bc_ HB.out hw302_5, bc_ HB.out hw302_6, bc_ HB.out hw302_7, bc_ HB.out hw302_8, bc_ HB.out hw308_0, bc_ HB.out hw308_1, bc_ HB.out hw308_2, bc_ HB.out hw308_3, bc_ HB.out hw308_4, bc_ HB.out hw308_5, bc_ HB.out hw308_6, bc_ HB.out hw308_7, bc_ HB.out hw308_8⟩ (fun hHeld => ?_)
             clear hK K
             refine nm_ 4 (h := ?_)
             exact norm_ (by (simp only [putAll, Act.put, sbA, sbB, sbC]; done)) (hJ5_12_13 (v304, gb314, gb315) _ ⟨hHeld, (by exact Kd.V_mono HO305.out (fun _ hk => ⟨hk.2, hk.1⟩)), BK314.out, BK315.out, GW314.out, GE314.out, NB315_314.out, NB314_315.out, GW315.out, GE315.out, HB.out⟩)
          ·
           rintro ⟨v304, gb314⟩ w10 ⟨hS_, h0_, h1_, h2_, h3_, h4_⟩
           have n0_ : Aside0 (Kd.V (Kd.int .i64) 3 w10 w.heap.size (fun k_ => k_ ≠ gb314) v304 t303) := ⟨h0_⟩
           have n1_ : Aside0 (w10.heap[gb314]? = some (.cells #[.slice none 0 0, .int .i64 0, .int .i64 0] 30 (0, 0))) := ⟨h1_⟩
           have n2_ : Aside0 (w.heap.size ≤ gb314) := ⟨h2_⟩
           have n3_ : Aside0 (w.heap.size ≤ gb314) := ⟨h3_⟩
           have n4_ : Aside0 (Below w.heap.size w w10) := ⟨h4_⟩
           clear HB
           clear h0_ h1_ h2_ h3_ h4_
           have HO305 := n0_
           have BK314 := n1_
           have GW314 := n2_
           have GE314 := n3_
           have HB := n4_
           clear n0_ n1_ n2_ n3_ n4_
           have hHeld : hc9_ w10 (ad302.add ((x3_1).toNat * 9)) (.int .i64 ((rd_T76 l0 x3_1).f0.f0)) (.int .i64 ((rd_T76 l0 x3_1).f0.f1)) (.int .i64 ((rd_T76 l0 x3_1).f0.f2)) (.slice A302_3 ((rd_T76 l0 x3_1).f1.f0).length c302_3) (.int .i64 ((rd_T76 l0 x3_1).f1.f1)) (.int .i64 ((rd_T76 l0 x3_1).f1.f2)) (.slice A302_6 ((rd_T76 l0 x3_1).f2.f0).length c302_6) (.int .i64 ((rd_T76 l0 x3_1).f2.f1)) (.int .i64 ((rd_T76 l0 x3_1).f2.f2)) (he9_ w10 (ad302.add ((x3_1).toNat * 9)) (.int .i64 ((rd_T76 l0 x3_1).f0.f0)) (.int .i64 ((rd_T76 l0 x3_1).f0.f1)) (.int .i64 ((rd_T76 l0 x3_1).f0.f2)) (.slice A302_3 ((rd_T76 l0 x3_1).f1.f0).length c302_3) (.int .i64 ((rd_T76 l0 x3_1).f1.f1)) (.int .i64 ((rd_T76 l0 x3_1).f1.f2)) (.slice A302_6 ((rd_T76 l0 x3_1).f2.f0).length c302_6) (.int .i64 ((rd_T76 l0 x3_1).f2.f1)) (.int .i64 ((rd_T76 l0 x3_1).f2.f2))) := hS_
           refine norm_ (a' := ?_) ?_ ?_
           rotate_left
           ·
            simp only [putAll, Act.put, sbA, sbB, sbC]
            rfl
           refine two_ (i := 11) (j := 13) (Ni := some 23) (Nj := some 5) (bm 16 0x1fff) (bm 16 0x37ff) rfl rfl rfl rfl (two_of HT_.out (by kernel_rfl)) (by decide) (by decide) (fun K hK => ?_) (fun K hK => ?_)
           ·
            refine goes_ Try.func15 (by kernel_rfl) rfl #[.agg #[.slice A302_6 ((rd_T76 l0 x3_1).f2.f0).length c302_6, .int .i64 ((rd_T76 l0 x3_1).f2.f1), .int .i64 ((rd_T76 l0 x3_1).f2.f2)]] (by rfl) rfl rfl (by (try simp only [List.map_toArray, List.map_cons, List.map_nil]); rfl) ?_
            with_reducible refine (remontoirlaw03_As.calls (fun k_ => k_ < w.heap.size) _ _ ((rd_T76 l0 x3_1).f2.f0) ((rd_T76 l0 x3_1).f2.f1) ((rd_T76 l0 x3_1).f2.f2) t309 t312 t313 _ ?side1 A5.out).mono ?_
            (case side1 => exact Kd.V_mk HC308_6.out (Kd.F_below (Kd.C_F (Kd.heap_int .i64) HR308_6.out) HB.out))
            rintro e w11 ⟨v310, rfl, ho0, hb⟩
            refine ⟨_, rfl, ?_⟩
            have n1_ := Aside0.mk (Kd.V_lower (Kd.V_mono (ok' := fun k_ => k_ ≠ gb314) ho0 (fun k_ hk_ => Or.elim hk_ (fun hs_ => fun e_ => Nat.not_le.2 hs_ (by rw [e_]; exact GW314.out)) (fun hn_ => (Kd.freshB BK314.out k_ hn_)))) (below_size HB.out))
            have HO311 := n1_; clear n1_; replace HO305 := vb_ HO305 hb; replace BK314 := kb_ BK314 hb; replace HB := hb_ HB hb
            (try clear hb)
            (try clear hb2)
            (try clear hk)
            (try clear hi)
            (try clear ho0)
            refine hK.out _ _ ⟨bc_ HB.out hw302_0, bc_ HB.out hw302_1, bc_ HB.out hw302_2, bc_ HB.out hw302_3, bc_ HB.out hw302_4, bc_ HB.out hw302_5, bc_ HB.out hw302_6, bc_ HB.out hw302_7, bc_ HB.out hw302_8, bc_ HB.out hw308_0, bc_ HB.out hw308_1, bc_ HB.out hw308_2, bc_ HB.out hw308_3, bc_ HB.out hw308_4, bc_ HB.out hw308_5, bc_ HB.out hw308_6, bc_ HB.out hw308_7, bc_ HB.out hw308_8⟩ (fun hHeld => ?_)
            clear hK K
            refine nm_ 23 (h := ?_)
            exact norm_ (by (simp only [putAll, Act.put, sbA, sbB, sbC]; done)) (hJ5_11_12 (v304, v310, gb314) _ ⟨hHeld, HO305.out, HO311.out, BK314.out, GW314.out, GE314.out, HB.out⟩)
           ·
            refine box_step ?hg (N := 5) ?hd (cs := #[.slice none 0 0, .int .i64 0, .int .i64 0]) (t := 30) ?hr ?_; (case hd => rfl); (case hg => rfl); (case hr => (go_simp; done))
            intro gb315 hg w11 hbox hb
            have n0_ := Aside0.mk (Kd.V_below (Kd.V_elderB HO305.out gb315 (Nat.le_of_eq hg.symm)) hb)
            have n3_ := Aside0.mk (hbox)
            have n4_ := Aside0.mk ((by rw [hg]; exact (below_size HB.out) : w.heap.size ≤ gb315))
            have n5_ := Aside0.mk ((by rw [hg]; exact (below_size HB.out) : w.heap.size ≤ gb315))
            have n6_ := Aside0.mk ((by rw [hg]; exact Nat.ne_of_lt (blk_lt BK314.out) : gb314 ≠ gb315))
            have n7_ := Aside0.mk ((by rw [hg]; exact Nat.ne_of_gt (blk_lt BK314.out) : gb315 ≠ gb314))
            clear HO305; have HO305 := n0_; have BK315 := n3_; have GW315 := n4_; have GE315 := n5_; have NB314_315 := n6_; have NB315_314 := n7_; clear n0_ n3_ n4_ n5_ n6_ n7_; replace BK314 := kb_ BK314 hb; replace HB := hb_ HB hb
            clear hb hbox hg
            refine hK.out _ _ ⟨bc_ HB.out hw302_0, bc_ HB.out hw302_1, bc_ HB.out hw302_2, bc_ HB.out hw302_3, bc_ HB.out hw302_4, bc_ HB.out hw302_5, bc_ HB.out hw302_6, bc_ HB.out hw302_7, bc_ HB.out hw302_8, bc_ HB.out hw308_0, bc_ HB.out hw308_1, bc_ HB.out hw308_2, bc_ HB.out hw308_3, bc_ HB.out hw308_4, bc_ HB.out hw308_5, bc_ HB.out hw308_6, bc_ HB.out hw308_7, bc_ HB.out hw308_8⟩ (fun hHeld => ?_)
            clear hK K
            refine nm_ 5 (h := ?_)
            exact norm_ (by (simp only [putAll, Act.put, sbA, sbB, sbC]; done)) (hJ5_12_13 (v304, gb314, gb315) _ ⟨hHeld, HO305.out, BK314.out, BK315.out, GW314.out, GE314.out, NB315_314.out, NB314_315.out, GW315.out, GE315.out, HB.out⟩)
         ·
          rintro ⟨v304, v310⟩ w10 ⟨hS_, h0_, h1_, h2_⟩
          have n0_ : Aside0 (Kd.V (Kd.int .i64) 3 w10 w.heap.size (fun _ => True) v304 t303) := ⟨h0_⟩
          have n1_ : Aside0 (Kd.V (Kd.int .i64) 3 w10 w.heap.size (fun _ => True) v310 t309) := ⟨h1_⟩
          have n2_ : Aside0 (Below w.heap.size w w10) := ⟨h2_⟩
          clear HB
          clear h0_ h1_ h2_
          have HO305 := n0_
          have HO311 := n1_
          have HB := n2_
          clear n0_ n1_ n2_
          have hHeld : hc9_ w10 (ad302.add ((x3_1).toNat * 9)) (.int .i64 ((rd_T76 l0 x3_1).f0.f0)) (.int .i64 ((rd_T76 l0 x3_1).f0.f1)) (.int .i64 ((rd_T76 l0 x3_1).f0.f2)) (.slice A302_3 ((rd_T76 l0 x3_1).f1.f0).length c302_3) (.int .i64 ((rd_T76 l0 x3_1).f1.f1)) (.int .i64 ((rd_T76 l0 x3_1).f1.f2)) (.slice A302_6 ((rd_T76 l0 x3_1).f2.f0).length c302_6) (.int .i64 ((rd_T76 l0 x3_1).f2.f1)) (.int .i64 ((rd_T76 l0 x3_1).f2.f2)) (he9_ w10 (ad302.add ((x3_1).toNat * 9)) (.int .i64 ((rd_T76 l0 x3_1).f0.f0)) (.int .i64 ((rd_T76 l0 x3_1).f0.f1)) (.int .i64 ((rd_T76 l0 x3_1).f0.f2)) (.slice A302_3 ((rd_T76 l0 x3_1).f1.f0).length c302_3) (.int .i64 ((rd_T76 l0 x3_1).f1.f1)) (.int .i64 ((rd_T76 l0 x3_1).f1.f2)) (.slice A302_6 ((rd_T76 l0 x3_1).f2.f0).length c302_6) (.int .i64 ((rd_T76 l0 x3_1).f2.f1)) (.int .i64 ((rd_T76 l0 x3_1).f2.f2))) := hS_
          refine norm_ (a' := ?_) ?_ ?_
          rotate_left
          ·
           simp only [putAll, Act.put, sbA, sbB, sbC]
           rfl
          refine two_ (i := 12) (j := 13) (Ni := some 4) (Nj := some 5) (bm 16 0x1fff) (bm 16 0x2fff) rfl rfl rfl rfl (two_of HT_.out (by kernel_rfl)) (by decide) (by decide) (fun K hK => ?_) (fun K hK => ?_)
          ·
           refine box_step ?hg (N := 4) ?hd (cs := #[.slice none 0 0, .int .i64 0, .int .i64 0]) (t := 30) ?hr ?_; (case hd => rfl); (case hg => rfl); (case hr => (go_simp; done))
           intro gb314 hg w11 hbox hb
           have n0_ := Aside0.mk (Kd.V_below (Kd.V_elderB HO305.out gb314 (Nat.le_of_eq hg.symm)) hb)
           have n1_ := Aside0.mk (Kd.V_below (Kd.V_elderB HO311.out gb314 (Nat.le_of_eq hg.symm)) hb)
           have n3_ := Aside0.mk (hbox)
           have n4_ := Aside0.mk ((by rw [hg]; exact (below_size HB.out) : w.heap.size ≤ gb314))
           have n5_ := Aside0.mk ((by rw [hg]; exact (below_size HB.out) : w.heap.size ≤ gb314))
           clear HO305 HO311; have HO305 := n0_; have HO311 := n1_; have BK314 := n3_; have GW314 := n4_; have GE314 := n5_; clear n0_ n1_ n3_ n4_ n5_; replace HB := hb_ HB hb
           clear hb hbox hg
           refine hK.out _ _ ⟨bc_ HB.out hw302_0, bc_ HB.out hw302_1, bc_ HB.out hw302_2, bc_ HB.out hw302_3, bc_ HB.out hw302_4, bc_ HB.out hw302_5, bc_ HB.out hw302_6, bc_ HB.out hw302_7, bc_ HB.out hw302_8, bc_ HB.out hw308_0, bc_ HB.out hw308_1, bc_ HB.out hw308_2, bc_ HB.out hw308_3, bc_ HB.out hw308_4, bc_ HB.out hw308_5, bc_ HB.out hw308_6, bc_ HB.out hw308_7, bc_ HB.out hw308_8⟩ (fun hHeld => ?_)
           clear hK K
           refine nm_ 4 (h := ?_)
           exact norm_ (by (simp only [putAll, Act.put, sbA, sbB, sbC]; done)) (hJ5_11_12 (v304, v310, gb314) _ ⟨hHeld, (by exact Kd.V_mono HO305.out (fun _ hk => hk.2)), (by exact Kd.V_mono HO311.out (fun _ hk => hk.2)), BK314.out, GW314.out, GE314.out, HB.out⟩)
          ·
           refine box_step ?hg (N := 5) ?hd (cs := #[.slice none 0 0, .int .i64 0, .int .i64 0]) (t := 30) ?hr ?_; (case hd => rfl); (case hg => rfl); (case hr => (go_simp; done))
           intro gb315 hg w11 hbox hb
           have n0_ := Aside0.mk (Kd.V_below (Kd.V_elderB HO305.out gb315 (Nat.le_of_eq hg.symm)) hb)
           have n1_ := Aside0.mk (Kd.V_below (Kd.V_elderB HO311.out gb315 (Nat.le_of_eq hg.symm)) hb)
           have n3_ := Aside0.mk (hbox)
           have n4_ := Aside0.mk ((by rw [hg]; exact (below_size HB.out) : w.heap.size ≤ gb315))
           have n5_ := Aside0.mk ((by rw [hg]; exact (below_size HB.out) : w.heap.size ≤ gb315))
           clear HO305 HO311; have HO305 := n0_; have HO311 := n1_; have BK315 := n3_; have GW315 := n4_; have GE315 := n5_; clear n0_ n1_ n3_ n4_ n5_; replace HB := hb_ HB hb
           clear hb hbox hg
           refine hK.out _ _ ⟨bc_ HB.out hw302_0, bc_ HB.out hw302_1, bc_ HB.out hw302_2, bc_ HB.out hw302_3, bc_ HB.out hw302_4, bc_ HB.out hw302_5, bc_ HB.out hw302_6, bc_ HB.out hw302_7, bc_ HB.out hw302_8, bc_ HB.out hw308_0, bc_ HB.out hw308_1, bc_ HB.out hw308_2, bc_ HB.out hw308_3, bc_ HB.out hw308_4, bc_ HB.out hw308_5, bc_ HB.out hw308_6, bc_ HB.out hw308_7, bc_ HB.out hw308_8⟩ (fun hHeld => ?_)
           clear hK K
           refine nm_ 5 (h := ?_)
           exact norm_ (by (simp only [putAll, Act.put, sbA, sbB, sbC]; done)) (hJ5_11_13 (v304, v310, gb315) _ ⟨hHeld, (by exact Kd.V_mono HO305.out (fun _ hk => hk.2)), (by exact Kd.V_mono HO311.out (fun _ hk => hk.2)), BK315.out, GW315.out, GE315.out, HB.out⟩)
        ·
         rintro ⟨v304, gb314, gb315⟩ w11 ⟨hS_, h0_, h1_, h2_, h3_, h4_, h5_, h6_, h7_, h8_, h9_⟩
         have n0_ : Aside0 (Kd.V (Kd.int .i64) 3 w11 w.heap.size (fun k_ => k_ ≠ gb314 ∧ k_ ≠ gb315) v304 t303) := ⟨h0_⟩
         have n1_ : Aside0 (w11.heap[gb314]? = some (.cells #[.slice none 0 0, .int .i64 0, .int .i64 0] 30 (0, 0))) := ⟨h1_⟩
         have n2_ : Aside0 (w11.heap[gb315]? = some (.cells #[.slice none 0 0, .int .i64 0, .int .i64 0] 30 (0, 0))) := ⟨h2_⟩
         have n3_ : Aside0 (w.heap.size ≤ gb314) := ⟨h3_⟩
         have n4_ : Aside0 (w.heap.size ≤ gb314) := ⟨h4_⟩
         have n5_ : Aside0 (gb315 ≠ gb314) := ⟨h5_⟩
         have n6_ : Aside0 (gb314 ≠ gb315) := ⟨h6_⟩
         have n7_ : Aside0 (w.heap.size ≤ gb315) := ⟨h7_⟩
         have n8_ : Aside0 (w.heap.size ≤ gb315) := ⟨h8_⟩
         have n9_ : Aside0 (Below w.heap.size w w11) := ⟨h9_⟩
         clear HB
         clear h0_ h1_ h2_ h3_ h4_ h5_ h6_ h7_ h8_ h9_
         have HO305 := n0_
         have BK314 := n1_
         have BK315 := n2_
         have GW314 := n3_
         have GE314 := n4_
         have NB315_314 := n5_
         have NB314_315 := n6_
         have GW315 := n7_
         have GE315 := n8_
         have HB := n9_
         clear n0_ n1_ n2_ n3_ n4_ n5_ n6_ n7_ n8_ n9_
         have hHeld : hc9_ w11 (ad302.add ((x3_1).toNat * 9)) (.int .i64 ((rd_T76 l0 x3_1).f0.f0)) (.int .i64 ((rd_T76 l0 x3_1).f0.f1)) (.int .i64 ((rd_T76 l0 x3_1).f0.f2)) (.slice A302_3 ((rd_T76 l0 x3_1).f1.f0).length c302_3) (.int .i64 ((rd_T76 l0 x3_1).f1.f1)) (.int .i64 ((rd_T76 l0 x3_1).f1.f2)) (.slice A302_6 ((rd_T76 l0 x3_1).f2.f0).length c302_6) (.int .i64 ((rd_T76 l0 x3_1).f2.f1)) (.int .i64 ((rd_T76 l0 x3_1).f2.f2)) (he9_ w11 (ad302.add ((x3_1).toNat * 9)) (.int .i64 ((rd_T76 l0 x3_1).f0.f0)) (.int .i64 ((rd_T76 l0 x3_1).f0.f1)) (.int .i64 ((rd_T76 l0 x3_1).f0.f2)) (.slice A302_3 ((rd_T76 l0 x3_1).f1.f0).length c302_3) (.int .i64 ((rd_T76 l0 x3_1).f1.f1)) (.int .i64 ((rd_T76 l0 x3_1).f1.f2)) (.slice A302_6 ((rd_T76 l0 x3_1).f2.f0).length c302_6) (.int .i64 ((rd_T76 l0 x3_1).f2.f1)) (.int .i64 ((rd_T76 l0 x3_1).f2.f2))) := hS_
         refine norm_ (a' := ?_) ?_ ?_
         rotate_left
         ·
          simp only [putAll, Act.put, sbA, sbB, sbC]
          rfl
         refine one_ (i := 11) (N := some 23) (bm 16 0x3fff) rfl rfl (one_of HT_.out (by kernel_rfl)) (by decide) (fun K hK => ?_)
         refine goes_ Try.func15 (by kernel_rfl) rfl #[.agg #[.slice A302_6 ((rd_T76 l0 x3_1).f2.f0).length c302_6, .int .i64 ((rd_T76 l0 x3_1).f2.f1), .int .i64 ((rd_T76 l0 x3_1).f2.f2)]] (by rfl) rfl rfl (by (try simp only [List.map_toArray, List.map_cons, List.map_nil]); rfl) ?_
         with_reducible refine (remontoirlaw03_As.calls (fun k_ => k_ < w.heap.size) _ _ ((rd_T76 l0 x3_1).f2.f0) ((rd_T76 l0 x3_1).f2.f1) ((rd_T76 l0 x3_1).f2.f2) t309 t312 t313 _ ?side1 A5.out).mono ?_
         (case side1 => exact Kd.V_mk HC308_6.out (Kd.F_below (Kd.C_F (Kd.heap_int .i64) HR308_6.out) HB.out))
         rintro e w12 ⟨v310, rfl, ho0, hb⟩
         refine ⟨_, rfl, ?_⟩
         have n1_ := Aside0.mk (Kd.V_lower (Kd.V_mono (ok' := fun k_ => k_ ≠ gb314 ∧ k_ ≠ gb315) ho0 (fun k_ hk_ => ⟨Or.elim hk_ (fun hs_ => fun e_ => Nat.not_le.2 hs_ (by rw [e_]; exact GW314.out)) (fun hn_ => (Kd.freshB BK314.out k_ hn_)), Or.elim hk_ (fun hs_ => fun e_ => Nat.not_le.2 hs_ (by rw [e_]; exact GW315.out)) (fun hn_ => (Kd.freshB BK315.out k_ hn_))⟩)) (below_size HB.out))
         have HO311 := n1_; clear n1_; replace HO305 := vb_ HO305 hb; replace BK314 := kb_ BK314 hb; replace BK315 := kb_ BK315 hb; replace HB := hb_ HB hb
         (try clear hb)
         (try clear hb2)
         (try clear hk)
         (try clear hi)
         (try clear ho0)
         refine hK.out _ _ ⟨bc_ HB.out hw302_0, bc_ HB.out hw302_1, bc_ HB.out hw302_2, bc_ HB.out hw302_3, bc_ HB.out hw302_4, bc_ HB.out hw302_5, bc_ HB.out hw302_6, bc_ HB.out hw302_7, bc_ HB.out hw302_8, bc_ HB.out hw308_0, bc_ HB.out hw308_1, bc_ HB.out hw308_2, bc_ HB.out hw308_3, bc_ HB.out hw308_4, bc_ HB.out hw308_5, bc_ HB.out hw308_6, bc_ HB.out hw308_7, bc_ HB.out hw308_8⟩ (fun hHeld => ?_)
         clear hK K
         refine nm_ 23 (h := ?_)
         exact norm_ (by (simp only [putAll, Act.put, sbA, sbB, sbC]; done)) (hJ5_11_12_13 (v304, v310, gb314, gb315) _ ⟨hHeld, HO305.out, HO311.out, BK314.out, BK315.out, GW314.out, GE314.out, NB315_314.out, NB314_315.out, GW315.out, GE315.out, HB.out⟩)
       ·
        rintro ⟨v304, v310, gb315⟩ w11 ⟨hS_, h0_, h1_, h2_, h3_, h4_, h5_⟩
        have n0_ : Aside0 (Kd.V (Kd.int .i64) 3 w11 w.heap.size (fun k_ => k_ ≠ gb315) v304 t303) := ⟨h0_⟩
        have n1_ : Aside0 (Kd.V (Kd.int .i64) 3 w11 w.heap.size (fun k_ => k_ ≠ gb315) v310 t309) := ⟨h1_⟩
        have n2_ : Aside0 (w11.heap[gb315]? = some (.cells #[.slice none 0 0, .int .i64 0, .int .i64 0] 30 (0, 0))) := ⟨h2_⟩
        have n3_ : Aside0 (w.heap.size ≤ gb315) := ⟨h3_⟩
        have n4_ : Aside0 (w.heap.size ≤ gb315) := ⟨h4_⟩
        have n5_ : Aside0 (Below w.heap.size w w11) := ⟨h5_⟩
        clear HB
        clear h0_ h1_ h2_ h3_ h4_ h5_
        have HO305 := n0_
        have HO311 := n1_
        have BK315 := n2_
        have GW315 := n3_
        have GE315 := n4_
        have HB := n5_
        clear n0_ n1_ n2_ n3_ n4_ n5_
        have hHeld : hc9_ w11 (ad302.add ((x3_1).toNat * 9)) (.int .i64 ((rd_T76 l0 x3_1).f0.f0)) (.int .i64 ((rd_T76 l0 x3_1).f0.f1)) (.int .i64 ((rd_T76 l0 x3_1).f0.f2)) (.slice A302_3 ((rd_T76 l0 x3_1).f1.f0).length c302_3) (.int .i64 ((rd_T76 l0 x3_1).f1.f1)) (.int .i64 ((rd_T76 l0 x3_1).f1.f2)) (.slice A302_6 ((rd_T76 l0 x3_1).f2.f0).length c302_6) (.int .i64 ((rd_T76 l0 x3_1).f2.f1)) (.int .i64 ((rd_T76 l0 x3_1).f2.f2)) (he9_ w11 (ad302.add ((x3_1).toNat * 9)) (.int .i64 ((rd_T76 l0 x3_1).f0.f0)) (.int .i64 ((rd_T76 l0 x3_1).f0.f1)) (.int .i64 ((rd_T76 l0 x3_1).f0.f2)) (.slice A302_3 ((rd_T76 l0 x3_1).f1.f0).length c302_3) (.int .i64 ((rd_T76 l0 x3_1).f1.f1)) (.int .i64 ((rd_T76 l0 x3_1).f1.f2)) (.slice A302_6 ((rd_T76 l0 x3_1).f2.f0).length c302_6) (.int .i64 ((rd_T76 l0 x3_1).f2.f1)) (.int .i64 ((rd_T76 l0 x3_1).f2.f2))) := hS_
        refine norm_ (a' := ?_) ?_ ?_
        rotate_left
        ·
         simp only [putAll, Act.put, sbA, sbB, sbC]
         rfl
        refine one_ (i := 12) (N := some 4) (bm 16 0x3fff) rfl rfl (one_of HT_.out (by kernel_rfl)) (by decide) (fun K hK => ?_)
        refine box_step ?hg (N := 4) ?hd (cs := #[.slice none 0 0, .int .i64 0, .int .i64 0]) (t := 30) ?hr ?_; (case hd => rfl); (case hg => rfl); (case hr => (go_simp; done))
        intro gb314 hg w12 hbox hb
        have n0_ := Aside0.mk (Kd.V_below (Kd.V_elderB HO305.out gb314 (Nat.le_of_eq hg.symm)) hb)
        have n1_ := Aside0.mk (Kd.V_below (Kd.V_elderB HO311.out gb314 (Nat.le_of_eq hg.symm)) hb)
        have n4_ := Aside0.mk (hbox)
        have n5_ := Aside0.mk ((by rw [hg]; exact (below_size HB.out) : w.heap.size ≤ gb314))
        have n6_ := Aside0.mk ((by rw [hg]; exact (below_size HB.out) : w.heap.size ≤ gb314))
        have n7_ := Aside0.mk ((by rw [hg]; exact Nat.ne_of_lt (blk_lt BK315.out) : gb315 ≠ gb314))
        have n8_ := Aside0.mk ((by rw [hg]; exact Nat.ne_of_gt (blk_lt BK315.out) : gb314 ≠ gb315))
        clear HO305 HO311; have HO305 := n0_; have HO311 := n1_; have BK314 := n4_; have GW314 := n5_; have GE314 := n6_; have NB315_314 := n7_; have NB314_315 := n8_; clear n0_ n1_ n4_ n5_ n6_ n7_ n8_; replace BK315 := kb_ BK315 hb; replace HB := hb_ HB hb
        clear hb hbox hg
        refine hK.out _ _ ⟨bc_ HB.out hw302_0, bc_ HB.out hw302_1, bc_ HB.out hw302_2, bc_ HB.out hw302_3, bc_ HB.out hw302_4, bc_ HB.out hw302_5, bc_ HB.out hw302_6, bc_ HB.out hw302_7, bc_ HB.out hw302_8, bc_ HB.out hw308_0, bc_ HB.out hw308_1, bc_ HB.out hw308_2, bc_ HB.out hw308_3, bc_ HB.out hw308_4, bc_ HB.out hw308_5, bc_ HB.out hw308_6, bc_ HB.out hw308_7, bc_ HB.out hw308_8⟩ (fun hHeld => ?_)
        clear hK K
        refine nm_ 4 (h := ?_)
        exact norm_ (by (simp only [putAll, Act.put, sbA, sbB, sbC]; done)) (hJ5_11_12_13 (v304, v310, gb314, gb315) _ ⟨hHeld, (by exact Kd.V_mono HO305.out (fun _ hk => ⟨hk.2, hk.1⟩)), (by exact Kd.V_mono HO311.out (fun _ hk => ⟨hk.2, hk.1⟩)), BK314.out, BK315.out, GW314.out, GE314.out, NB315_314.out, NB314_315.out, GW315.out, GE315.out, HB.out⟩)
      ·
       rintro ⟨v304, v310, gb314⟩ w11 ⟨hS_, h0_, h1_, h2_, h3_, h4_, h5_⟩
       have n0_ : Aside0 (Kd.V (Kd.int .i64) 3 w11 w.heap.size (fun k_ => k_ ≠ gb314) v304 t303) := ⟨h0_⟩
       have n1_ : Aside0 (Kd.V (Kd.int .i64) 3 w11 w.heap.size (fun k_ => k_ ≠ gb314) v310 t309) := ⟨h1_⟩
       have n2_ : Aside0 (w11.heap[gb314]? = some (.cells #[.slice none 0 0, .int .i64 0, .int .i64 0] 30 (0, 0))) := ⟨h2_⟩
       have n3_ : Aside0 (w.heap.size ≤ gb314) := ⟨h3_⟩
       have n4_ : Aside0 (w.heap.size ≤ gb314) := ⟨h4_⟩
       have n5_ : Aside0 (Below w.heap.size w w11) := ⟨h5_⟩
       clear HB
       clear h0_ h1_ h2_ h3_ h4_ h5_
       have HO305 := n0_
       have HO311 := n1_
       have BK314 := n2_
       have GW314 := n3_
       have GE314 := n4_
       have HB := n5_
       clear n0_ n1_ n2_ n3_ n4_ n5_
       have hHeld : hc9_ w11 (ad302.add ((x3_1).toNat * 9)) (.int .i64 ((rd_T76 l0 x3_1).f0.f0)) (.int .i64 ((rd_T76 l0 x3_1).f0.f1)) (.int .i64 ((rd_T76 l0 x3_1).f0.f2)) (.slice A302_3 ((rd_T76 l0 x3_1).f1.f0).length c302_3) (.int .i64 ((rd_T76 l0 x3_1).f1.f1)) (.int .i64 ((rd_T76 l0 x3_1).f1.f2)) (.slice A302_6 ((rd_T76 l0 x3_1).f2.f0).length c302_6) (.int .i64 ((rd_T76 l0 x3_1).f2.f1)) (.int .i64 ((rd_T76 l0 x3_1).f2.f2)) (he9_ w11 (ad302.add ((x3_1).toNat * 9)) (.int .i64 ((rd_T76 l0 x3_1).f0.f0)) (.int .i64 ((rd_T76 l0 x3_1).f0.f1)) (.int .i64 ((rd_T76 l0 x3_1).f0.f2)) (.slice A302_3 ((rd_T76 l0 x3_1).f1.f0).length c302_3) (.int .i64 ((rd_T76 l0 x3_1).f1.f1)) (.int .i64 ((rd_T76 l0 x3_1).f1.f2)) (.slice A302_6 ((rd_T76 l0 x3_1).f2.f0).length c302_6) (.int .i64 ((rd_T76 l0 x3_1).f2.f1)) (.int .i64 ((rd_T76 l0 x3_1).f2.f2))) := hS_
       refine norm_ (a' := ?_) ?_ ?_
       rotate_left
       ·
        simp only [putAll, Act.put, sbA, sbB, sbC]
        rfl
       refine one_ (i := 13) (N := some 5) (bm 16 0x3fff) rfl rfl (one_of HT_.out (by kernel_rfl)) (by decide) (fun K hK => ?_)
       refine box_step ?hg (N := 5) ?hd (cs := #[.slice none 0 0, .int .i64 0, .int .i64 0]) (t := 30) ?hr ?_; (case hd => rfl); (case hg => rfl); (case hr => (go_simp; done))
       intro gb315 hg w12 hbox hb
       have n0_ := Aside0.mk (Kd.V_below (Kd.V_elderB HO305.out gb315 (Nat.le_of_eq hg.symm)) hb)
       have n1_ := Aside0.mk (Kd.V_below (Kd.V_elderB HO311.out gb315 (Nat.le_of_eq hg.symm)) hb)
       have n4_ := Aside0.mk (hbox)
       have n5_ := Aside0.mk ((by rw [hg]; exact (below_size HB.out) : w.heap.size ≤ gb315))
       have n6_ := Aside0.mk ((by rw [hg]; exact (below_size HB.out) : w.heap.size ≤ gb315))
       have n7_ := Aside0.mk ((by rw [hg]; exact Nat.ne_of_lt (blk_lt BK314.out) : gb314 ≠ gb315))
       have n8_ := Aside0.mk ((by rw [hg]; exact Nat.ne_of_gt (blk_lt BK314.out) : gb315 ≠ gb314))
       clear HO305 HO311; have HO305 := n0_; have HO311 := n1_; have BK315 := n4_; have GW315 := n5_; have GE315 := n6_; have NB314_315 := n7_; have NB315_314 := n8_; clear n0_ n1_ n4_ n5_ n6_ n7_ n8_; replace BK314 := kb_ BK314 hb; replace HB := hb_ HB hb
       clear hb hbox hg
       refine hK.out _ _ ⟨bc_ HB.out hw302_0, bc_ HB.out hw302_1, bc_ HB.out hw302_2, bc_ HB.out hw302_3, bc_ HB.out hw302_4, bc_ HB.out hw302_5, bc_ HB.out hw302_6, bc_ HB.out hw302_7, bc_ HB.out hw302_8, bc_ HB.out hw308_0, bc_ HB.out hw308_1, bc_ HB.out hw308_2, bc_ HB.out hw308_3, bc_ HB.out hw308_4, bc_ HB.out hw308_5, bc_ HB.out hw308_6, bc_ HB.out hw308_7, bc_ HB.out hw308_8⟩ (fun hHeld => ?_)
       clear hK K
       refine nm_ 5 (h := ?_)
       exact norm_ (by (simp only [putAll, Act.put, sbA, sbB, sbC]; done)) (hJ5_11_12_13 (v304, v310, gb314, gb315) _ ⟨hHeld, HO305.out, HO311.out, BK314.out, BK315.out, GW314.out, GE314.out, NB315_314.out, NB314_315.out, GW315.out, GE315.out, HB.out⟩)
     rintro ⟨v304, v310, gb314, gb315⟩ w12 ⟨hS_, h0_, h1_, h2_, h3_, h4_, h5_, h6_, h7_, h8_, h9_, h10_⟩
     have n0_ : Aside0 (Kd.V (Kd.int .i64) 3 w12 w.heap.size (fun k_ => k_ ≠ gb314 ∧ k_ ≠ gb315) v304 t303) := ⟨h0_⟩
     have n1_ : Aside0 (Kd.V (Kd.int .i64) 3 w12 w.heap.size (fun k_ => k_ ≠ gb314 ∧ k_ ≠ gb315) v310 t309) := ⟨h1_⟩
     have n2_ : Aside0 (w12.heap[gb314]? = some (.cells #[.slice none 0 0, .int .i64 0, .int .i64 0] 30 (0, 0))) := ⟨h2_⟩
     have n3_ : Aside0 (w12.heap[gb315]? = some (.cells #[.slice none 0 0, .int .i64 0, .int .i64 0] 30 (0, 0))) := ⟨h3_⟩
     have n4_ : Aside0 (w.heap.size ≤ gb314) := ⟨h4_⟩
     have n5_ : Aside0 (w.heap.size ≤ gb314) := ⟨h5_⟩
     have n6_ : Aside0 (gb315 ≠ gb314) := ⟨h6_⟩
     have n7_ : Aside0 (gb314 ≠ gb315) := ⟨h7_⟩
     have n8_ : Aside0 (w.heap.size ≤ gb315) := ⟨h8_⟩
     have n9_ : Aside0 (w.heap.size ≤ gb315) := ⟨h9_⟩
     have n10_ : Aside0 (Below w.heap.size w w12) := ⟨h10_⟩
     clear HB
     clear h0_ h1_ h2_ h3_ h4_ h5_ h6_ h7_ h8_ h9_ h10_
     have HO305 := n0_
     have HO311 := n1_
     have BK314 := n2_
     have BK315 := n3_
     have GW314 := n4_
     have GE314 := n5_
     have NB315_314 := n6_
     have NB314_315 := n7_
     have GW315 := n8_
     have GE315 := n9_
     have HB := n10_
     clear n0_ n1_ n2_ n3_ n4_ n5_ n6_ n7_ n8_ n9_ n10_
     have hHeld : hc9_ w12 (ad302.add ((x3_1).toNat * 9)) (.int .i64 ((rd_T76 l0 x3_1).f0.f0)) (.int .i64 ((rd_T76 l0 x3_1).f0.f1)) (.int .i64 ((rd_T76 l0 x3_1).f0.f2)) (.slice A302_3 ((rd_T76 l0 x3_1).f1.f0).length c302_3) (.int .i64 ((rd_T76 l0 x3_1).f1.f1)) (.int .i64 ((rd_T76 l0 x3_1).f1.f2)) (.slice A302_6 ((rd_T76 l0 x3_1).f2.f0).length c302_6) (.int .i64 ((rd_T76 l0 x3_1).f2.f1)) (.int .i64 ((rd_T76 l0 x3_1).f2.f2)) (he9_ w12 (ad302.add ((x3_1).toNat * 9)) (.int .i64 ((rd_T76 l0 x3_1).f0.f0)) (.int .i64 ((rd_T76 l0 x3_1).f0.f1)) (.int .i64 ((rd_T76 l0 x3_1).f0.f2)) (.slice A302_3 ((rd_T76 l0 x3_1).f1.f0).length c302_3) (.int .i64 ((rd_T76 l0 x3_1).f1.f1)) (.int .i64 ((rd_T76 l0 x3_1).f1.f2)) (.slice A302_6 ((rd_T76 l0 x3_1).f2.f0).length c302_6) (.int .i64 ((rd_T76 l0 x3_1).f2.f1)) (.int .i64 ((rd_T76 l0 x3_1).f2.f2))) := hS_
     obtain ⟨Ao13, co13, eo13⟩ := Kd.V_slice HO305.out
     ((subst eo13))
     obtain ⟨Ao17, co17, eo17⟩ := Kd.V_slice HO311.out
     ((subst eo17))
     refine norm_ (a' := ?_) ?_ ?_
     rotate_left
     ·
      simp only [putAll, Act.put, sbA, sbB, sbC]
      rfl
     refine one_ (i := 14) (N := none) (bm 16 0x7fff) rfl rfl (one_of HT_.out (by kernel_rfl)) (by decide) (fun K hK => ?_)
     have hs14 : w12.cell? ⟨gb314, 0, none⟩ = some (.slice none 0 0) := (blk_cell BK314.out 0).trans rfl
     have hfs14 := blk_frozen BK314.out 0
     have hns14_1 := NB315_314.out
     have hms14_1 := NB314_315.out
     have hs15 : w12.cell? ⟨gb314, 1, none⟩ = some (.int .i64 0) := (blk_cell BK314.out 1).trans rfl
     have hfs15 := blk_frozen BK314.out 1
     have hns15_1 := NB315_314.out
     have hms15_1 := NB314_315.out
     have hs16 : w12.cell? ⟨gb314, 2, none⟩ = some (.int .i64 0) := (blk_cell BK314.out 2).trans rfl
     have hfs16 := blk_frozen BK314.out 2
     have hns16_1 := NB315_314.out
     have hms16_1 := NB314_315.out
     refine skip_ (w1 := ?_) (by rfl) rfl ?_ ?_
     rotate_left
     ·
      go_simp
      rfl
     refine hK.out _ _ ⟨(cf_ (p := ⟨gb314, _, none⟩) hw302_0 GW314.out (cf_ (p := ⟨gb314, _, none⟩) hw302_0 GW314.out (cf_ (p := ⟨gb314, _, none⟩) hw302_0 GW314.out hHeld.1))), (cf_ (p := ⟨gb314, _, none⟩) hw302_1 GW314.out (cf_ (p := ⟨gb314, _, none⟩) hw302_1 GW314.out (cf_ (p := ⟨gb314, _, none⟩) hw302_1 GW314.out hHeld.2.1))), (cf_ (p := ⟨gb314, _, none⟩) hw302_2 GW314.out (cf_ (p := ⟨gb314, _, none⟩) hw302_2 GW314.out (cf_ (p := ⟨gb314, _, none⟩) hw302_2 GW314.out hHeld.2.2.1))), (cf_ (p := ⟨gb314, _, none⟩) hw302_3 GW314.out (cf_ (p := ⟨gb314, _, none⟩) hw302_3 GW314.out (cf_ (p := ⟨gb314, _, none⟩) hw302_3 GW314.out hHeld.2.2.2.1))), (cf_ (p := ⟨gb314, _, none⟩) hw302_4 GW314.out (cf_ (p := ⟨gb314, _, none⟩) hw302_4 GW314.out (cf_ (p := ⟨gb314, _, none⟩) hw302_4 GW314.out hHeld.2.2.2.2.1))), (cf_ (p := ⟨gb314, _, none⟩) hw302_5 GW314.out (cf_ (p := ⟨gb314, _, none⟩) hw302_5 GW314.out (cf_ (p := ⟨gb314, _, none⟩) hw302_5 GW314.out hHeld.2.2.2.2.2.1))), (cf_ (p := ⟨gb314, _, none⟩) hw302_6 GW314.out (cf_ (p := ⟨gb314, _, none⟩) hw302_6 GW314.out (cf_ (p := ⟨gb314, _, none⟩) hw302_6 GW314.out hHeld.2.2.2.2.2.2.1))), (cf_ (p := ⟨gb314, _, none⟩) hw302_7 GW314.out (cf_ (p := ⟨gb314, _, none⟩) hw302_7 GW314.out (cf_ (p := ⟨gb314, _, none⟩) hw302_7 GW314.out hHeld.2.2.2.2.2.2.2.1))), (cf_ (p := ⟨gb314, _, none⟩) hw302_8 GW314.out (cf_ (p := ⟨gb314, _, none⟩) hw302_8 GW314.out (cf_ (p := ⟨gb314, _, none⟩) hw302_8 GW314.out hHeld.2.2.2.2.2.2.2.2.1))), (cf_ (p := ⟨gb314, _, none⟩) hw308_0 GW314.out (cf_ (p := ⟨gb314, _, none⟩) hw308_0 GW314.out (cf_ (p := ⟨gb314, _, none⟩) hw308_0 GW314.out hHeld.2.2.2.2.2.2.2.2.2.1))), (cf_ (p := ⟨gb314, _, none⟩) hw308_1 GW314.out (cf_ (p := ⟨gb314, _, none⟩) hw308_1 GW314.out (cf_ (p := ⟨gb314, _, none⟩) hw308_1 GW314.out hHeld.2.2.2.2.2.2.2.2.2.2.1))), (cf_ (p := ⟨gb314, _, none⟩) hw308_2 GW314.out (cf_ (p := ⟨gb314, _, none⟩) hw308_2 GW314.out (cf_ (p := ⟨gb314, _, none⟩) hw308_2 GW314.out hHeld.2.2.2.2.2.2.2.2.2.2.2.1))), (cf_ (p := ⟨gb314, _, none⟩) hw308_3 GW314.out (cf_ (p := ⟨gb314, _, none⟩) hw308_3 GW314.out (cf_ (p := ⟨gb314, _, none⟩) hw308_3 GW314.out hHeld.2.2.2.2.2.2.2.2.2.2.2.2.1))), (cf_ (p := ⟨gb314, _, none⟩) hw308_4 GW314.out (cf_ (p := ⟨gb314, _, none⟩) hw308_4 GW314.out (cf_ (p := ⟨gb314, _, none⟩) hw308_4 GW314.out hHeld.2.2.2.2.2.2.2.2.2.2.2.2.2.1))), (cf_ (p := ⟨gb314, _, none⟩) hw308_5 GW314.out (cf_ (p := ⟨gb314, _, none⟩) hw308_5 GW314.out (cf_ (p := ⟨gb314, _, none⟩) hw308_5 GW314.out hHeld.2.2.2.2.2.2.2.2.2.2.2.2.2.2.1))), (cf_ (p := ⟨gb314, _, none⟩) hw308_6 GW314.out (cf_ (p := ⟨gb314, _, none⟩) hw308_6 GW314.out (cf_ (p := ⟨gb314, _, none⟩) hw308_6 GW314.out hHeld.2.2.2.2.2.2.2.2.2.2.2.2.2.2.2.1))), (cf_ (p := ⟨gb314, _, none⟩) hw308_7 GW314.out (cf_ (p := ⟨gb314, _, none⟩) hw308_7 GW314.out (cf_ (p := ⟨gb314, _, none⟩) hw308_7 GW314.out hHeld.2.2.2.2.2.2.2.2.2.2.2.2.2.2.2.2.1))), (cf_ (p := ⟨gb314, _, none⟩) hw308_8 GW314.out (cf_ (p := ⟨gb314, _, none⟩) hw308_8 GW314.out (cf_ (p := ⟨gb314, _, none⟩) hw308_8 GW314.out hHeld.2.2.2.2.2.2.2.2.2.2.2.2.2.2.2.2.2)))⟩ (fun hHeld => ?_)
     clear hK K
     refine one_ (i := 15) (N := none) (bm 16 0xffff) rfl rfl (one_of HT_.out (by kernel_rfl)) (by decide) (fun K hK => ?_)
     have hs18 : w12.cell? ⟨gb315, 0, none⟩ = some (.slice none 0 0) := (blk_cell BK315.out 0).trans rfl
     have hfs18 := blk_frozen BK315.out 0
     have hns18_0 := NB314_315.out
     have hms18_0 := NB315_314.out
     have hs19 : w12.cell? ⟨gb315, 1, none⟩ = some (.int .i64 0) := (blk_cell BK315.out 1).trans rfl
     have hfs19 := blk_frozen BK315.out 1
     have hns19_0 := NB314_315.out
     have hms19_0 := NB315_314.out
     have hs20 : w12.cell? ⟨gb315, 2, none⟩ = some (.int .i64 0) := (blk_cell BK315.out 2).trans rfl
     have hfs20 := blk_frozen BK315.out 2
     have hns20_0 := NB314_315.out
     have hms20_0 := NB315_314.out
     refine skip_ (w1 := ?_) (by rfl) rfl ?_ ?_
     rotate_left
     ·
      go_simp
      rfl
     refine hK.out _ _ ⟨(cf_ (p := ⟨gb315, _, none⟩) hw302_0 GW315.out (cf_ (p := ⟨gb315, _, none⟩) hw302_0 GW315.out (cf_ (p := ⟨gb315, _, none⟩) hw302_0 GW315.out hHeld.1))), (cf_ (p := ⟨gb315, _, none⟩) hw302_1 GW315.out (cf_ (p := ⟨gb315, _, none⟩) hw302_1 GW315.out (cf_ (p := ⟨gb315, _, none⟩) hw302_1 GW315.out hHeld.2.1))), (cf_ (p := ⟨gb315, _, none⟩) hw302_2 GW315.out (cf_ (p := ⟨gb315, _, none⟩) hw302_2 GW315.out (cf_ (p := ⟨gb315, _, none⟩) hw302_2 GW315.out hHeld.2.2.1))), (cf_ (p := ⟨gb315, _, none⟩) hw302_3 GW315.out (cf_ (p := ⟨gb315, _, none⟩) hw302_3 GW315.out (cf_ (p := ⟨gb315, _, none⟩) hw302_3 GW315.out hHeld.2.2.2.1))), (cf_ (p := ⟨gb315, _, none⟩) hw302_4 GW315.out (cf_ (p := ⟨gb315, _, none⟩) hw302_4 GW315.out (cf_ (p := ⟨gb315, _, none⟩) hw302_4 GW315.out hHeld.2.2.2.2.1))), (cf_ (p := ⟨gb315, _, none⟩) hw302_5 GW315.out (cf_ (p := ⟨gb315, _, none⟩) hw302_5 GW315.out (cf_ (p := ⟨gb315, _, none⟩) hw302_5 GW315.out hHeld.2.2.2.2.2.1))), (cf_ (p := ⟨gb315, _, none⟩) hw302_6 GW315.out (cf_ (p := ⟨gb315, _, none⟩) hw302_6 GW315.out (cf_ (p := ⟨gb315, _, none⟩) hw302_6 GW315.out hHeld.2.2.2.2.2.2.1))), (cf_ (p := ⟨gb315, _, none⟩) hw302_7 GW315.out (cf_ (p := ⟨gb315, _, none⟩) hw302_7 GW315.out (cf_ (p := ⟨gb315, _, none⟩) hw302_7 GW315.out hHeld.2.2.2.2.2.2.2.1))), (cf_ (p := ⟨gb315, _, none⟩) hw302_8 GW315.out (cf_ (p := ⟨gb315, _, none⟩) hw302_8 GW315.out (cf_ (p := ⟨gb315, _, none⟩) hw302_8 GW315.out hHeld.2.2.2.2.2.2.2.2.1))), (cf_ (p := ⟨gb315, _, none⟩) hw308_0 GW315.out (cf_ (p := ⟨gb315, _, none⟩) hw308_0 GW315.out (cf_ (p := ⟨gb315, _, none⟩) hw308_0 GW315.out hHeld.2.2.2.2.2.2.2.2.2.1))), (cf_ (p := ⟨gb315, _, none⟩) hw308_1 GW315.out (cf_ (p := ⟨gb315, _, none⟩) hw308_1 GW315.out (cf_ (p := ⟨gb315, _, none⟩) hw308_1 GW315.out hHeld.2.2.2.2.2.2.2.2.2.2.1))), (cf_ (p := ⟨gb315, _, none⟩) hw308_2 GW315.out (cf_ (p := ⟨gb315, _, none⟩) hw308_2 GW315.out (cf_ (p := ⟨gb315, _, none⟩) hw308_2 GW315.out hHeld.2.2.2.2.2.2.2.2.2.2.2.1))), (cf_ (p := ⟨gb315, _, none⟩) hw308_3 GW315.out (cf_ (p := ⟨gb315, _, none⟩) hw308_3 GW315.out (cf_ (p := ⟨gb315, _, none⟩) hw308_3 GW315.out hHeld.2.2.2.2.2.2.2.2.2.2.2.2.1))), (cf_ (p := ⟨gb315, _, none⟩) hw308_4 GW315.out (cf_ (p := ⟨gb315, _, none⟩) hw308_4 GW315.out (cf_ (p := ⟨gb315, _, none⟩) hw308_4 GW315.out hHeld.2.2.2.2.2.2.2.2.2.2.2.2.2.1))), (cf_ (p := ⟨gb315, _, none⟩) hw308_5 GW315.out (cf_ (p := ⟨gb315, _, none⟩) hw308_5 GW315.out (cf_ (p := ⟨gb315, _, none⟩) hw308_5 GW315.out hHeld.2.2.2.2.2.2.2.2.2.2.2.2.2.2.1))), (cf_ (p := ⟨gb315, _, none⟩) hw308_6 GW315.out (cf_ (p := ⟨gb315, _, none⟩) hw308_6 GW315.out (cf_ (p := ⟨gb315, _, none⟩) hw308_6 GW315.out hHeld.2.2.2.2.2.2.2.2.2.2.2.2.2.2.2.1))), (cf_ (p := ⟨gb315, _, none⟩) hw308_7 GW315.out (cf_ (p := ⟨gb315, _, none⟩) hw308_7 GW315.out (cf_ (p := ⟨gb315, _, none⟩) hw308_7 GW315.out hHeld.2.2.2.2.2.2.2.2.2.2.2.2.2.2.2.2.1))), (cf_ (p := ⟨gb315, _, none⟩) hw308_8 GW315.out (cf_ (p := ⟨gb315, _, none⟩) hw308_8 GW315.out (cf_ (p := ⟨gb315, _, none⟩) hw308_8 GW315.out hHeld.2.2.2.2.2.2.2.2.2.2.2.2.2.2.2.2.2)))⟩ (fun hHeld => ?_)
     clear hK K
     refine done_ (done_of HT_.out (by kernel_rfl)) ?_
     go_upto_region 5 with (fail)
     go_cut [64] (fun v64 wc => ∃ (kq : Nat) (x64_5 : Bool), v64 = .bool x64_5 ∧ Aside0 (remontoirlaw18_right.j1 kq l0 x3_1 x64_5 = some r) ∧ Aside0 (kq ≤ k1) ∧ Aside0 (Kd.V (Kd.int .i64) 3 wc w.heap.size (fun k_ => k_ ≠ gb314 ∧ k_ ≠ gb315) (.slice Ao13 t303.length co13) t303) ∧ Aside0 (Kd.V (Kd.int .i64) 3 wc w.heap.size (fun k_ => k_ ≠ gb314 ∧ k_ ≠ gb315) (.slice Ao17 t309.length co17) t309) ∧ Aside0 (wc.heap[gb314]? = some (.cells #[(.slice Ao13 t303.length co13), .int .i64 t306, .int .i64 t307] 30 (0, 0))) ∧ Aside0 (wc.heap[gb315]? = some (.cells #[(.slice Ao17 t309.length co17), .int .i64 t312, .int .i64 t313] 30 (0, 0))) ∧ Aside0 (Below w.heap.size w wc))
     case first =>
      have H := HC6.out
      clear HC6
      replace H := Option.bind_eq_some_iff.mp H
      obtain ⟨t317, A210, H⟩ := H
      replace H : (if t317 = true then ((remontoirref03_Right.f t303 t306 t307).bind fun t318 => (if t318 = true then ((remontoirref03_Right.f t309 t312 t313).bind fun t319 => (if t319 = true then (if (t303.length : Int) = ((rd_T76 l0 x3_1).f0.f2) then (remontoirlaw18_right.j1 k1 l0 x3_1 ((t309.length : Int) != ((rd_T76 l0 x3_1).f0.f2))) else (remontoirlaw18_right.j1 k1 l0 x3_1 true)) else (remontoirlaw18_right.j1 k1 l0 x3_1 true))) else (remontoirlaw18_right.j1 k1 l0 x3_1 true))) else (remontoirlaw18_right.j1 k1 l0 x3_1 true)) = some r := H
      have A21 := Aside0.mk A210
      clear A210
      by_cases c22 : t317 = true
      ·
       subst c22
       have H1 : ((remontoirref03_Right.f t303 t306 t307).bind fun t318 => (if t318 = true then ((remontoirref03_Right.f t309 t312 t313).bind fun t319 => (if t319 = true then (if (t303.length : Int) = ((rd_T76 l0 x3_1).f0.f2) then (remontoirlaw18_right.j1 k1 l0 x3_1 ((t309.length : Int) != ((rd_T76 l0 x3_1).f0.f2))) else (remontoirlaw18_right.j1 k1 l0 x3_1 true)) else (remontoirlaw18_right.j1 k1 l0 x3_1 true))) else (remontoirlaw18_right.j1 k1 l0 x3_1 true))) = some r := by rw [if_pos rfl] at H; exact H
       clear H
       have H := H1
       clear H1
       replace H := Option.bind_eq_some_iff.mp H
       obtain ⟨t318, A230, H⟩ := H
       replace H : (if t318 = true then ((remontoirref03_Right.f t309 t312 t313).bind fun t319 => (if t319 = true then (if (t303.length : Int) = ((rd_T76 l0 x3_1).f0.f2) then (remontoirlaw18_right.j1 k1 l0 x3_1 ((t309.length : Int) != ((rd_T76 l0 x3_1).f0.f2))) else (remontoirlaw18_right.j1 k1 l0 x3_1 true)) else (remontoirlaw18_right.j1 k1 l0 x3_1 true))) else (remontoirlaw18_right.j1 k1 l0 x3_1 true)) = some r := H
       have A23 := Aside0.mk A230
       clear A230
       by_cases c24 : t318 = true
       ·
        subst c24
        have H1 : ((remontoirref03_Right.f t309 t312 t313).bind fun t319 => (if t319 = true then (if (t303.length : Int) = ((rd_T76 l0 x3_1).f0.f2) then (remontoirlaw18_right.j1 k1 l0 x3_1 ((t309.length : Int) != ((rd_T76 l0 x3_1).f0.f2))) else (remontoirlaw18_right.j1 k1 l0 x3_1 true)) else (remontoirlaw18_right.j1 k1 l0 x3_1 true))) = some r := by rw [if_pos rfl] at H; exact H
        clear H
        have H := H1
        clear H1
        replace H := Option.bind_eq_some_iff.mp H
        obtain ⟨t319, A250, H⟩ := H
        replace H : (if t319 = true then (if (t303.length : Int) = ((rd_T76 l0 x3_1).f0.f2) then (remontoirlaw18_right.j1 k1 l0 x3_1 ((t309.length : Int) != ((rd_T76 l0 x3_1).f0.f2))) else (remontoirlaw18_right.j1 k1 l0 x3_1 true)) else (remontoirlaw18_right.j1 k1 l0 x3_1 true)) = some r := H
        have A25 := Aside0.mk A250
        clear A250
        by_cases c26 : t319 = true
        ·
         subst c26
         have H1 : (if (t303.length : Int) = ((rd_T76 l0 x3_1).f0.f2) then (remontoirlaw18_right.j1 k1 l0 x3_1 ((t309.length : Int) != ((rd_T76 l0 x3_1).f0.f2))) else (remontoirlaw18_right.j1 k1 l0 x3_1 true)) = some r := by rw [if_pos rfl] at H; exact H
         clear H
         have H := H1
         clear H1
         by_cases c27 : (t303.length : Int) = ((rd_T76 l0 x3_1).f0.f2)
         ·
          rw [if_pos c27] at H
          have c27b0 : ((t303.length : Int) == ((rd_T76 l0 x3_1).f0.f2)) = true := beq_iff_eq.mpr c27
          have c27b1 : ((t303.length : Int) != ((rd_T76 l0 x3_1).f0.f2)) = false := bne_eq_false_iff_eq.mpr c27
          clear c27
          (skip)
          have H' := Aside0.mk H
          clear H
          try go_wp2
          have n0_ : Aside0 (Kd.V (Kd.int .i64) 3 ((((((w12.setCell ⟨gb314, 0, none⟩ (.slice Ao13 t303.length co13)).setCell ⟨gb314, 1, none⟩ (.int .i64 t306)).setCell ⟨gb314, 2, none⟩ (.int .i64 t307)).setCell ⟨gb315, 0, none⟩ (.slice Ao17 t309.length co17)).setCell ⟨gb315, 1, none⟩ (.int .i64 t312)).setCell ⟨gb315, 2, none⟩ (.int .i64 t313)) w.heap.size (fun k_ => k_ ≠ gb314 ∧ k_ ≠ gb315) (.slice Ao13 t303.length co13) t303) := ⟨by exact Kd.V_mono (vf3_ (vf3_ (Kd.V_mono (Kd.V_mono HO305.out (fun k_ hk => (⟨hk, hk.1⟩ : _ ∧ k_ ≠ gb314))) (fun k_ hk => (⟨hk, hk.1.2⟩ : _ ∧ k_ ≠ gb315))) (fun _ hk => hk.1.2)) (fun _ hk => hk.2)) (fun _ hk => ⟨hk.1.1.1, hk.1.1.2⟩)⟩
          have n1_ : Aside0 (Kd.V (Kd.int .i64) 3 ((((((w12.setCell ⟨gb314, 0, none⟩ (.slice Ao13 t303.length co13)).setCell ⟨gb314, 1, none⟩ (.int .i64 t306)).setCell ⟨gb314, 2, none⟩ (.int .i64 t307)).setCell ⟨gb315, 0, none⟩ (.slice Ao17 t309.length co17)).setCell ⟨gb315, 1, none⟩ (.int .i64 t312)).setCell ⟨gb315, 2, none⟩ (.int .i64 t313)) w.heap.size (fun k_ => k_ ≠ gb314 ∧ k_ ≠ gb315) (.slice Ao17 t309.length co17) t309) := ⟨by exact Kd.V_mono (vf3_ (vf3_ (Kd.V_mono (Kd.V_mono HO311.out (fun k_ hk => (⟨hk, hk.1⟩ : _ ∧ k_ ≠ gb314))) (fun k_ hk => (⟨hk, hk.1.2⟩ : _ ∧ k_ ≠ gb315))) (fun _ hk => hk.1.2)) (fun _ hk => hk.2)) (fun _ hk => ⟨hk.1.1.1, hk.1.1.2⟩)⟩
          have n2_ : Aside0 (((((((w12.setCell ⟨gb314, 0, none⟩ (.slice Ao13 t303.length co13)).setCell ⟨gb314, 1, none⟩ (.int .i64 t306)).setCell ⟨gb314, 2, none⟩ (.int .i64 t307)).setCell ⟨gb315, 0, none⟩ (.slice Ao17 t309.length co17)).setCell ⟨gb315, 1, none⟩ (.int .i64 t312)).setCell ⟨gb315, 2, none⟩ (.int .i64 t313)).heap[gb314]? = some (.cells #[.slice Ao13 t303.length co13, .int .i64 t306, .int .i64 t307] 30 (0, 0))) := ⟨by refine blk_far ?_ NB314_315.out _; refine blk_far ?_ NB314_315.out _; refine blk_far ?_ NB314_315.out _; exact bp3_ BK314.out⟩
          have n3_ : Aside0 (((((((w12.setCell ⟨gb314, 0, none⟩ (.slice Ao13 t303.length co13)).setCell ⟨gb314, 1, none⟩ (.int .i64 t306)).setCell ⟨gb314, 2, none⟩ (.int .i64 t307)).setCell ⟨gb315, 0, none⟩ (.slice Ao17 t309.length co17)).setCell ⟨gb315, 1, none⟩ (.int .i64 t312)).setCell ⟨gb315, 2, none⟩ (.int .i64 t313)).heap[gb315]? = some (.cells #[.slice Ao17 t309.length co17, .int .i64 t312, .int .i64 t313] 30 (0, 0))) := ⟨by refine blk_put (cs := #[.slice Ao17 t309.length co17, .int .i64 t312, .int .i64 0]) ?_ 2 _ rfl; refine blk_put (cs := #[.slice Ao17 t309.length co17, .int .i64 0, .int .i64 0]) ?_ 1 _ rfl; refine blk_put (cs := #[.slice none 0 0, .int .i64 0, .int .i64 0]) ?_ 0 _ rfl; refine blk_far ?_ NB315_314.out _; refine blk_far ?_ NB315_314.out _; refine blk_far ?_ NB315_314.out _; exact BK315.out⟩
          have n4_ : Aside0 (Below w.heap.size w ((((((w12.setCell ⟨gb314, 0, none⟩ (.slice Ao13 t303.length co13)).setCell ⟨gb314, 1, none⟩ (.int .i64 t306)).setCell ⟨gb314, 2, none⟩ (.int .i64 t307)).setCell ⟨gb315, 0, none⟩ (.slice Ao17 t309.length co17)).setCell ⟨gb315, 1, none⟩ (.int .i64 t312)).setCell ⟨gb315, 2, none⟩ (.int .i64 t313))) := ⟨by repeat ((with_reducible first | exact HB.out | refine below_set ?_ GE314.out | refine below_set ?_ GE315.out))⟩
          (try clear HO305)
          (try clear HO311)
          (try clear BK314)
          (try clear BK315)
          (try clear HB)
          generalize ((((((w12.setCell ⟨gb314, 0, none⟩ (.slice Ao13 t303.length co13)).setCell ⟨gb314, 1, none⟩ (.int .i64 t306)).setCell ⟨gb314, 2, none⟩ (.int .i64 t307)).setCell ⟨gb315, 0, none⟩ (.slice Ao17 t309.length co17)).setCell ⟨gb315, 1, none⟩ (.int .i64 t312)).setCell ⟨gb315, 2, none⟩ (.int .i64 t313)) = w28 at n0_ n1_ n2_ n3_ n4_ ⊢
          have HO305 := n0_
          have HO311 := n1_
          have BK314 := n2_
          have BK315 := n3_
          have HB := n4_
          clear n0_ n1_ n2_ n3_ n4_
          have n0_ := Aside0.mk (Kd.V_drew HO305.out)
          have n1_ := Aside0.mk (Kd.V_drew HO311.out)
          have n2_ := Aside0.mk (blk_drew BK314.out)
          have n3_ := Aside0.mk (blk_drew BK315.out)
          have n4_ := Aside0.mk (below_drew1 HB.out)
          clear HO305 HO311 BK314 BK315 HB; have HO305 := n0_; have HO311 := n1_; have BK314 := n2_; have BK315 := n3_; have HB := n4_; clear n0_ n1_ n2_ n3_ n4_
          have p316 : 0 ≤ (x3_1 : Int) := of_decide_eq_true (by (with_reducible assumption))
          have q316 : x3_1 < (l0.length : Int) := of_decide_eq_true (by (with_reducible assumption))
          obtain ⟨ad316, A316_3, c316_3, A316_6, c316_6, e316, hx316_0, hx316_1, hx316_2, hx316_3, hx316_4, hx316_5, hx316_6, hx316_7, hx316_8, hl316_3, hi316_3, hl316_6, hi316_6⟩ := at_T76 HR0.out x3_1 p316 q316
          have hw316_8 := hx316_8
          have hw316_7 := hx316_7
          have hw316_6 := hx316_6
          have hw316_5 := hx316_5
          have hw316_4 := hx316_4
          have hw316_3 := hx316_3
          have hw316_2 := hx316_2
          have hw316_1 := hx316_1
          have hw316_0 := hx316_0
          obtain rfl : ad302 = ad316 := (by injection e316)
          replace hx316_0 := bc_ HB.out hx316_0
          replace hx316_1 := bc_ HB.out hx316_1
          replace hx316_2 := bc_ HB.out hx316_2
          replace hx316_3 := bc_ HB.out hx316_3
          replace hx316_4 := bc_ HB.out hx316_4
          replace hx316_5 := bc_ HB.out hx316_5
          replace hx316_6 := bc_ HB.out hx316_6
          replace hx316_7 := bc_ HB.out hx316_7
          replace hx316_8 := bc_ HB.out hx316_8
          have HR316_3 := Aside0.mk hi316_3
          have HC316_3 := Aside0.mk hl316_3
          clear hi316_3 hl316_3
          have HR316_6 := Aside0.mk hi316_6
          have HC316_6 := Aside0.mk hl316_6
          clear hi316_6 hl316_6
          replace p316 := eq_true p316
          replace q316 := eq_true q316
          have p320 : 0 ≤ (x3_1 : Int) := of_decide_eq_true (by (with_reducible assumption))
          have q320 : x3_1 < (l0.length : Int) := of_decide_eq_true (by (with_reducible assumption))
          obtain ⟨ad320, A320_3, c320_3, A320_6, c320_6, e320, hx320_0, hx320_1, hx320_2, hx320_3, hx320_4, hx320_5, hx320_6, hx320_7, hx320_8, hl320_3, hi320_3, hl320_6, hi320_6⟩ := at_T76 HR0.out x3_1 p320 q320
          have hw320_8 := hx320_8
          have hw320_7 := hx320_7
          have hw320_6 := hx320_6
          have hw320_5 := hx320_5
          have hw320_4 := hx320_4
          have hw320_3 := hx320_3
          have hw320_2 := hx320_2
          have hw320_1 := hx320_1
          have hw320_0 := hx320_0
          obtain rfl : ad302 = ad320 := (by injection e320)
          replace hx320_0 := bc_ HB.out hx320_0
          replace hx320_1 := bc_ HB.out hx320_1
          replace hx320_2 := bc_ HB.out hx320_2
          replace hx320_3 := bc_ HB.out hx320_3
          replace hx320_4 := bc_ HB.out hx320_4
          replace hx320_5 := bc_ HB.out hx320_5
          replace hx320_6 := bc_ HB.out hx320_6
          replace hx320_7 := bc_ HB.out hx320_7
          replace hx320_8 := bc_ HB.out hx320_8
          have HR320_3 := Aside0.mk hi320_3
          have HC320_3 := Aside0.mk hl320_3
          clear hi320_3 hl320_3
          have HR320_6 := Aside0.mk hi320_6
          have HC320_6 := Aside0.mk hl320_6
          clear hi320_6 hl320_6
          replace p320 := eq_true p320
          replace q320 := eq_true q320
          have ea_ := Option.some.inj (hx316_3.symm.trans hx320_3)
          injection ea_ with ea_ en_ ec_
          subst ea_
          subst ec_
          clear en_
          have ea_ := Option.some.inj (hx316_6.symm.trans hx320_6)
          injection ea_ with ea_ en_ ec_
          subst ea_
          subst ec_
          clear en_
          have p321 : 0 ≤ (x3_1 : Int) := of_decide_eq_true (by (with_reducible assumption))
          have q321 : x3_1 < (l0.length : Int) := of_decide_eq_true (by (with_reducible assumption))
          obtain ⟨ad321, A321_3, c321_3, A321_6, c321_6, e321, hx321_0, hx321_1, hx321_2, hx321_3, hx321_4, hx321_5, hx321_6, hx321_7, hx321_8, hl321_3, hi321_3, hl321_6, hi321_6⟩ := at_T76 HR0.out x3_1 p321 q321
          have hw321_8 := hx321_8
          have hw321_7 := hx321_7
          have hw321_6 := hx321_6
          have hw321_5 := hx321_5
          have hw321_4 := hx321_4
          have hw321_3 := hx321_3
          have hw321_2 := hx321_2
          have hw321_1 := hx321_1
          have hw321_0 := hx321_0
          obtain rfl : ad302 = ad321 := (by injection e321)
          replace hx321_0 := bc_ HB.out hx321_0
          replace hx321_1 := bc_ HB.out hx321_1
          replace hx321_2 := bc_ HB.out hx321_2
          replace hx321_3 := bc_ HB.out hx321_3
          replace hx321_4 := bc_ HB.out hx321_4
          replace hx321_5 := bc_ HB.out hx321_5
          replace hx321_6 := bc_ HB.out hx321_6
          replace hx321_7 := bc_ HB.out hx321_7
          replace hx321_8 := bc_ HB.out hx321_8
          have HR321_3 := Aside0.mk hi321_3
          have HC321_3 := Aside0.mk hl321_3
          clear hi321_3 hl321_3
          have HR321_6 := Aside0.mk hi321_6
          have HC321_6 := Aside0.mk hl321_6
          clear hi321_6 hl321_6
          replace p321 := eq_true p321
          replace q321 := eq_true q321
          have ea_ := Option.some.inj (hx320_3.symm.trans hx321_3)
          injection ea_ with ea_ en_ ec_
          subst ea_
          subst ec_
          clear en_
          have ea_ := Option.some.inj (hx320_6.symm.trans hx321_6)
          injection ea_ with ea_ en_ ec_
          subst ea_
          subst ec_
          clear en_
          refine start_ (n := 41) (S := fun w' => w'.cell? ⟨gb314, 0, none⟩ = some (.slice Ao13 t303.length co13) ∧ w'.cell? ⟨gb314, 1, none⟩ = some (.int .i64 t306) ∧ w'.cell? ⟨gb314, 2, none⟩ = some (.int .i64 t307) ∧ w'.cell? ⟨gb315, 0, none⟩ = some (.slice Ao17 t309.length co17) ∧ w'.cell? ⟨gb315, 1, none⟩ = some (.int .i64 t312) ∧ w'.cell? ⟨gb315, 2, none⟩ = some (.int .i64 t313) ∧ hc9_ w' (ad302.add ((x3_1).toNat * 9)) (.int .i64 ((rd_T76 l0 x3_1).f0.f0)) (.int .i64 ((rd_T76 l0 x3_1).f0.f1)) (.int .i64 ((rd_T76 l0 x3_1).f0.f2)) (.slice A316_3 ((rd_T76 l0 x3_1).f1.f0).length c316_3) (.int .i64 ((rd_T76 l0 x3_1).f1.f1)) (.int .i64 ((rd_T76 l0 x3_1).f1.f2)) (.slice A316_6 ((rd_T76 l0 x3_1).f2.f0).length c316_6) (.int .i64 ((rd_T76 l0 x3_1).f2.f1)) (.int .i64 ((rd_T76 l0 x3_1).f2.f2)) (hc9_ w' (ad302.add ((x3_1).toNat * 9)) (.int .i64 ((rd_T76 l0 x3_1).f0.f0)) (.int .i64 ((rd_T76 l0 x3_1).f0.f1)) (.int .i64 ((rd_T76 l0 x3_1).f0.f2)) (.slice A316_3 ((rd_T76 l0 x3_1).f1.f0).length c316_3) (.int .i64 ((rd_T76 l0 x3_1).f1.f1)) (.int .i64 ((rd_T76 l0 x3_1).f1.f2)) (.slice A316_6 ((rd_T76 l0 x3_1).f2.f0).length c316_6) (.int .i64 ((rd_T76 l0 x3_1).f2.f1)) (.int .i64 ((rd_T76 l0 x3_1).f2.f2)) (he9_ w' (ad302.add ((x3_1).toNat * 9)) (.int .i64 ((rd_T76 l0 x3_1).f0.f0)) (.int .i64 ((rd_T76 l0 x3_1).f0.f1)) (.int .i64 ((rd_T76 l0 x3_1).f0.f2)) (.slice A316_3 ((rd_T76 l0 x3_1).f1.f0).length c316_3) (.int .i64 ((rd_T76 l0 x3_1).f1.f1)) (.int .i64 ((rd_T76 l0 x3_1).f1.f2)) (.slice A316_6 ((rd_T76 l0 x3_1).f2.f0).length c316_6) (.int .i64 ((rd_T76 l0 x3_1).f2.f1)) (.int .i64 ((rd_T76 l0 x3_1).f2.f2))))) (ds := []) #[false, false, false, false, false, false, false, false, false, false, false, false, false, false, false, false, false, false, false, false, false, false, false, false, false, false, false, false, false, false, false, false, false, false, false, false, false, false, false, false, false] (by kernel_rfl) rfl rfl ⟨(blk_cell BK314.out 0).trans rfl, (blk_cell BK314.out 1).trans rfl, (blk_cell BK314.out 2).trans rfl, (blk_cell BK315.out 0).trans rfl, (blk_cell BK315.out 1).trans rfl, (blk_cell BK315.out 2).trans rfl, bc_ HB.out hw316_0, bc_ HB.out hw316_1, bc_ HB.out hw316_2, bc_ HB.out hw316_3, bc_ HB.out hw316_4, bc_ HB.out hw316_5, bc_ HB.out hw316_6, bc_ HB.out hw316_7, bc_ HB.out hw316_8, bc_ HB.out hw320_0, bc_ HB.out hw320_1, bc_ HB.out hw320_2, bc_ HB.out hw320_3, bc_ HB.out hw320_4, bc_ HB.out hw320_5, bc_ HB.out hw320_6, bc_ HB.out hw320_7, bc_ HB.out hw320_8, bc_ HB.out hw321_0, bc_ HB.out hw321_1, bc_ HB.out hw321_2, bc_ HB.out hw321_3, bc_ HB.out hw321_4, bc_ HB.out hw321_5, bc_ HB.out hw321_6, bc_ HB.out hw321_7, bc_ HB.out hw321_8⟩ (fun hHeld => ?_); refine with_tabW remontoirlaw18_right.tab5 remontoirlaw18_right.bits5 (fun HT_ HW_ => ?_)
          generalize w28.drew = w29 at HO305 HO311 BK314 BK315 HB HR316_3 HR316_6 HR320_3 HR320_6 HR321_3 HR321_6 hx316_0 hx316_1 hx316_2 hx316_3 hx316_4 hx316_5 hx316_6 hx316_7 hx316_8 hx320_0 hx320_1 hx320_2 hx320_3 hx320_4 hx320_5 hx320_6 hx320_7 hx320_8 hx321_0 hx321_1 hx321_2 hx321_3 hx321_4 hx321_5 hx321_6 hx321_7 hx321_8 hHeld ⊢
          refine pa_ 0 24 (bm 41 0x1) HT_ (h := ?_)
          refine pa_ 1 25 (bm 41 0x3) HT_ (h := ?_)
          refine pa_ 2 26 (bm 41 0x7) HT_ (h := ?_)
          refine pa_ 3 27 (bm 41 0xf) HT_ (h := ?_)
          refine take_ (i := 4) (N := some 28) (v := ?_) (a' := ?_) (bm 41 0x1f) rfl rfl (take_ofW HT_.out HW_.out (by kernel_rfl)) (fun _ _ _ h => h) (Or.inl ⟨by rfl, ?_⟩) hHeld ?_ ?_
          rotate_left
          ·
           rintro w' ⟨s0, s1, s2, s3, s4, s5, s6, s7, s8, s9, s10, s11, s12, s13, s14, s15, s16, s17, s18, s19, s20, s21, s22, s23, s24, s25, s26, s27, s28, s29, s30, s31, s32⟩
           go_simp
           with_reducible rfl
          rotate_left
          ·
           simp only [Act.put, sbA, sbB, sbC, i64_w, i32_w]
           rfl
          refine one_ (i := 5) (N := some 29) (bm 41 0x3f) rfl rfl (one_of HT_.out (by kernel_rfl)) (by decide) (fun K hK => ?_)
          refine goes_ Try.func45 (by kernel_rfl) rfl #[.agg #[.int .i64 ((rd_T76 l0 x3_1).f0.f0), .int .i64 ((rd_T76 l0 x3_1).f0.f1), .int .i64 ((rd_T76 l0 x3_1).f0.f2)]] (by rfl) rfl rfl (by (try simp only [List.map_toArray, List.map_cons, List.map_nil]); rfl) ?_
          with_reducible refine (remontoirref18_May.calls ((rd_T76 l0 x3_1).f0.f0) ((rd_T76 l0 x3_1).f0.f1) ((rd_T76 l0 x3_1).f0.f2) true _ A21.out).mono ?_
          rintro e w30 ⟨rfl, hb⟩
          refine ⟨_, rfl, ?_⟩
          replace HO305 := vb_ HO305 hb; replace HO311 := vb_ HO311 hb; replace BK314 := kb_ BK314 hb; replace BK315 := kb_ BK315 hb; replace HB := hb_ HB hb
          (try clear hb)
          (try clear hb2)
          (try clear hk)
          (try clear hi)
          refine hK.out _ _ ⟨(blk_cell BK314.out 0).trans rfl, (blk_cell BK314.out 1).trans rfl, (blk_cell BK314.out 2).trans rfl, (blk_cell BK315.out 0).trans rfl, (blk_cell BK315.out 1).trans rfl, (blk_cell BK315.out 2).trans rfl, bc_ HB.out hw316_0, bc_ HB.out hw316_1, bc_ HB.out hw316_2, bc_ HB.out hw316_3, bc_ HB.out hw316_4, bc_ HB.out hw316_5, bc_ HB.out hw316_6, bc_ HB.out hw316_7, bc_ HB.out hw316_8, bc_ HB.out hw320_0, bc_ HB.out hw320_1, bc_ HB.out hw320_2, bc_ HB.out hw320_3, bc_ HB.out hw320_4, bc_ HB.out hw320_5, bc_ HB.out hw320_6, bc_ HB.out hw320_7, bc_ HB.out hw320_8, bc_ HB.out hw321_0, bc_ HB.out hw321_1, bc_ HB.out hw321_2, bc_ HB.out hw321_3, bc_ HB.out hw321_4, bc_ HB.out hw321_5, bc_ HB.out hw321_6, bc_ HB.out hw321_7, bc_ HB.out hw321_8⟩ (fun hHeld => ?_)
          clear hK K
          refine nm_ 29 (h := ?_)
          refine pa_ 6 30 (bm 41 0x7f) HT_ (h := ?_)
          refine pa_ 7 31 (bm 41 0xff) HT_ (h := ?_)
          refine take_ (i := 8) (N := some 32) (v := ?_) (a' := ?_) (bm 41 0x1ff) rfl rfl (take_ofW HT_.out HW_.out (by kernel_rfl)) (fun _ _ _ h => h) (Or.inl ⟨by rfl, ?_⟩) hHeld ?_ ?_
          rotate_left
          ·
           rintro w' ⟨s0, s1, s2, s3, s4, s5, s6, s7, s8, s9, s10, s11, s12, s13, s14, s15, s16, s17, s18, s19, s20, s21, s22, s23, s24, s25, s26, s27, s28, s29, s30, s31, s32⟩
           go_simp
           with_reducible rfl
          rotate_left
          ·
           simp only [Act.put, sbA, sbB, sbC, i64_w, i32_w]
           rfl
          refine one_ (i := 9) (N := some 33) (bm 41 0x3ff) rfl rfl (one_of HT_.out (by kernel_rfl)) (by decide) (fun K hK => ?_)
          refine goes_ Try.func14 (by kernel_rfl) rfl #[.agg #[.slice Ao13 t303.length co13, .int .i64 t306, .int .i64 t307]] (by rfl) rfl rfl (by (try simp only [List.map_toArray, List.map_cons, List.map_nil]); rfl) ?_
          with_reducible refine (remontoirref03_Right.calls _ _ t303 t306 t307 true _ ?side1 ?side2 A23.out).mono ?_
          (case side1 => repeat ((exact (Kd.V_reads' HO305.out).2.2)))
          (case side2 => exact (Kd.V_reads' HO305.out).2.1)
          rintro e w31 ⟨rfl, hb⟩
          refine ⟨_, rfl, ?_⟩
          replace HO305 := vb_ HO305 hb; replace HO311 := vb_ HO311 hb; replace BK314 := kb_ BK314 hb; replace BK315 := kb_ BK315 hb; replace HB := hb_ HB hb
          (try clear hb)
          (try clear hb2)
          (try clear hk)
          (try clear hi)
          refine hK.out _ _ ⟨(blk_cell BK314.out 0).trans rfl, (blk_cell BK314.out 1).trans rfl, (blk_cell BK314.out 2).trans rfl, (blk_cell BK315.out 0).trans rfl, (blk_cell BK315.out 1).trans rfl, (blk_cell BK315.out 2).trans rfl, bc_ HB.out hw316_0, bc_ HB.out hw316_1, bc_ HB.out hw316_2, bc_ HB.out hw316_3, bc_ HB.out hw316_4, bc_ HB.out hw316_5, bc_ HB.out hw316_6, bc_ HB.out hw316_7, bc_ HB.out hw316_8, bc_ HB.out hw320_0, bc_ HB.out hw320_1, bc_ HB.out hw320_2, bc_ HB.out hw320_3, bc_ HB.out hw320_4, bc_ HB.out hw320_5, bc_ HB.out hw320_6, bc_ HB.out hw320_7, bc_ HB.out hw320_8, bc_ HB.out hw321_0, bc_ HB.out hw321_1, bc_ HB.out hw321_2, bc_ HB.out hw321_3, bc_ HB.out hw321_4, bc_ HB.out hw321_5, bc_ HB.out hw321_6, bc_ HB.out hw321_7, bc_ HB.out hw321_8⟩ (fun hHeld => ?_)
          clear hK K
          refine nm_ 33 (h := ?_)
          refine pa_ 10 34 (bm 41 0x7ff) HT_ (h := ?_)
          refine pa_ 11 35 (bm 41 0xfff) HT_ (h := ?_)
          refine pa_ 12 36 (bm 41 0x1fff) HT_ (h := ?_)
          refine take_ (i := 13) (N := some 37) (v := ?_) (a' := ?_) (bm 41 0x3fff) rfl rfl (take_ofW HT_.out HW_.out (by kernel_rfl)) (fun _ _ _ h => h) (Or.inl ⟨by rfl, ?_⟩) hHeld ?_ ?_
          rotate_left
          ·
           rintro w' ⟨s0, s1, s2, s3, s4, s5, s6, s7, s8, s9, s10, s11, s12, s13, s14, s15, s16, s17, s18, s19, s20, s21, s22, s23, s24, s25, s26, s27, s28, s29, s30, s31, s32⟩
           go_simp
           with_reducible rfl
          rotate_left
          ·
           simp only [Act.put, sbA, sbB, sbC, i64_w, i32_w]
           rfl
          refine one_ (i := 14) (N := some 38) (bm 41 0x7fff) rfl rfl (one_of HT_.out (by kernel_rfl)) (by decide) (fun K hK => ?_)
          refine goes_ Try.func14 (by kernel_rfl) rfl #[.agg #[.slice Ao17 t309.length co17, .int .i64 t312, .int .i64 t313]] (by rfl) rfl rfl (by (try simp only [List.map_toArray, List.map_cons, List.map_nil]); rfl) ?_
          with_reducible refine (remontoirref03_Right.calls _ _ t309 t312 t313 true _ ?side1 ?side2 A25.out).mono ?_
          (case side1 => repeat ((exact (Kd.V_reads' HO311.out).2.2)))
          (case side2 => exact (Kd.V_reads' HO311.out).2.1)
          rintro e w32 ⟨rfl, hb⟩
          refine ⟨_, rfl, ?_⟩
          replace HO305 := vb_ HO305 hb; replace HO311 := vb_ HO311 hb; replace BK314 := kb_ BK314 hb; replace BK315 := kb_ BK315 hb; replace HB := hb_ HB hb
          (try clear hb)
          (try clear hb2)
          (try clear hk)
          (try clear hi)
          refine hK.out _ _ ⟨(blk_cell BK314.out 0).trans rfl, (blk_cell BK314.out 1).trans rfl, (blk_cell BK314.out 2).trans rfl, (blk_cell BK315.out 0).trans rfl, (blk_cell BK315.out 1).trans rfl, (blk_cell BK315.out 2).trans rfl, bc_ HB.out hw316_0, bc_ HB.out hw316_1, bc_ HB.out hw316_2, bc_ HB.out hw316_3, bc_ HB.out hw316_4, bc_ HB.out hw316_5, bc_ HB.out hw316_6, bc_ HB.out hw316_7, bc_ HB.out hw316_8, bc_ HB.out hw320_0, bc_ HB.out hw320_1, bc_ HB.out hw320_2, bc_ HB.out hw320_3, bc_ HB.out hw320_4, bc_ HB.out hw320_5, bc_ HB.out hw320_6, bc_ HB.out hw320_7, bc_ HB.out hw320_8, bc_ HB.out hw321_0, bc_ HB.out hw321_1, bc_ HB.out hw321_2, bc_ HB.out hw321_3, bc_ HB.out hw321_4, bc_ HB.out hw321_5, bc_ HB.out hw321_6, bc_ HB.out hw321_7, bc_ HB.out hw321_8⟩ (fun hHeld => ?_)
          clear hK K
          refine nm_ 38 (h := ?_)
          refine pa_ 15 39 (bm 41 0xffff) HT_ (h := ?_)
          refine pa_ 16 40 (bm 41 0x1ffff) HT_ (h := ?_)
          refine pa_ 17 41 (bm 41 0x3ffff) HT_ (h := ?_)
          refine pa_ 18 42 (bm 41 0x7ffff) HT_ (h := ?_)
          refine pa_ 21 45 (bm 41 0x27ffff) HT_ (h := ?_)
          refine pa_ 22 46 (bm 41 0x67ffff) HT_ (h := ?_)
          refine pa_ 23 47 (bm 41 0xe7ffff) HT_ (h := ?_)
          refine pa_ 24 48 (bm 41 0x1e7ffff) HT_ (h := ?_)
          refine pa_ 25 49 (bm 41 0x3e7ffff) HT_ (h := ?_)
          refine take_ (i := 19) (N := some 43) (v := ?_) (a' := ?_) (bm 41 0x3efffff) rfl rfl (take_ofW HT_.out HW_.out (by kernel_rfl)) (fun _ _ _ h => h) (Or.inl ⟨by rfl, ?_⟩) hHeld ?_ ?_
          rotate_left
          ·
           rintro w' ⟨s0, s1, s2, s3, s4, s5, s6, s7, s8, s9, s10, s11, s12, s13, s14, s15, s16, s17, s18, s19, s20, s21, s22, s23, s24, s25, s26, s27, s28, s29, s30, s31, s32⟩
           go_simp
           with_reducible rfl
          rotate_left
          ·
           simp only [Act.put, sbA, sbB, sbC, i64_w, i32_w]
           rfl
          refine pa_ 20 44 (bm 41 0x3ffffff) HT_ (h := ?_)
          refine take_ (i := 26) (N := some 50) (v := ?_) (a' := ?_) (bm 41 0x7ffffff) rfl rfl (take_ofW HT_.out HW_.out (by kernel_rfl)) (fun _ _ _ h => h) (Or.inl ⟨by rfl, ?_⟩) hHeld ?_ ?_
          rotate_left
          ·
           rintro w' ⟨s0, s1, s2, s3, s4, s5, s6, s7, s8, s9, s10, s11, s12, s13, s14, s15, s16, s17, s18, s19, s20, s21, s22, s23, s24, s25, s26, s27, s28, s29, s30, s31, s32⟩
           go_simp
           with_reducible rfl
          rotate_left
          ·
           simp only [Act.put, sbA, sbB, sbC, i64_w, i32_w]
           rfl
          refine pa_ 27 51 (bm 41 0xfffffff) HT_ (h := ?_)
          refine pa_ 28 52 (bm 41 0x1fffffff) HT_ (h := ?_)
          refine pa_ 29 53 (bm 41 0x3fffffff) HT_ (h := ?_)
          refine pa_ 30 54 (bm 41 0x7fffffff) HT_ (h := ?_)
          refine pa_ 33 57 (bm 41 0x27fffffff) HT_ (h := ?_)
          refine pa_ 34 58 (bm 41 0x67fffffff) HT_ (h := ?_)
          refine pa_ 35 59 (bm 41 0xe7fffffff) HT_ (h := ?_)
          refine pa_ 36 60 (bm 41 0x1e7fffffff) HT_ (h := ?_)
          refine pa_ 37 61 (bm 41 0x3e7fffffff) HT_ (h := ?_)
          refine take_ (i := 31) (N := some 55) (v := ?_) (a' := ?_) (bm 41 0x3effffffff) rfl rfl (take_ofW HT_.out HW_.out (by kernel_rfl)) (fun _ _ _ h => h) (Or.inl ⟨by rfl, ?_⟩) hHeld ?_ ?_
          rotate_left
          ·
           rintro w' ⟨s0, s1, s2, s3, s4, s5, s6, s7, s8, s9, s10, s11, s12, s13, s14, s15, s16, s17, s18, s19, s20, s21, s22, s23, s24, s25, s26, s27, s28, s29, s30, s31, s32⟩
           go_simp
           with_reducible rfl
          rotate_left
          ·
           simp only [Act.put, sbA, sbB, sbC, i64_w, i32_w]
           rfl
          refine pa_ 32 56 (bm 41 0x3fffffffff) HT_ (h := ?_)
          refine take_ (i := 38) (N := some 62) (v := ?_) (a' := ?_) (bm 41 0x7fffffffff) rfl rfl (take_ofW HT_.out HW_.out (by kernel_rfl)) (fun _ _ _ h => h) (Or.inl ⟨by rfl, ?_⟩) hHeld ?_ ?_
          rotate_left
          ·
           rintro w' ⟨s0, s1, s2, s3, s4, s5, s6, s7, s8, s9, s10, s11, s12, s13, s14, s15, s16, s17, s18, s19, s20, s21, s22, s23, s24, s25, s26, s27, s28, s29, s30, s31, s32⟩
           go_simp
           with_reducible rfl
          rotate_left
          ·
           simp only [Act.put, sbA, sbB, sbC, i64_w, i32_w]
           rfl
          refine pa_ 39 63 (bm 41 0xffffffffff) HT_ (h := ?_)
          refine pa_ 40 64 (bm 41 0x1ffffffffff) HT_ (h := ?_)
          refine done_ (done_of HT_.out (by kernel_rfl)) ?_
          try go_wp2
          go_meet
          case rel => exact ⟨_, (((t309.length : Int) != ((rd_T76 l0 x3_1).f0.f2))), (by rfl), H', ⟨by have := HK1.out; omega⟩, ⟨HO305.out⟩, ⟨HO311.out⟩, ⟨BK314.out⟩, ⟨BK315.out⟩, ⟨HB.out⟩⟩
         ·
          rw [if_neg c27] at H
          have c27b0 : ((t303.length : Int) == ((rd_T76 l0 x3_1).f0.f2)) = false := beq_eq_false_iff_ne.mpr c27
          have c27b1 : ((t303.length : Int) != ((rd_T76 l0 x3_1).f0.f2)) = true := bne_iff_ne.mpr c27
          (skip)
          have H' := Aside0.mk H
          clear H
          try go_wp2
          have n0_ : Aside0 (Kd.V (Kd.int .i64) 3 ((((((w12.setCell ⟨gb314, 0, none⟩ (.slice Ao13 t303.length co13)).setCell ⟨gb314, 1, none⟩ (.int .i64 t306)).setCell ⟨gb314, 2, none⟩ (.int .i64 t307)).setCell ⟨gb315, 0, none⟩ (.slice Ao17 t309.length co17)).setCell ⟨gb315, 1, none⟩ (.int .i64 t312)).setCell ⟨gb315, 2, none⟩ (.int .i64 t313)) w.heap.size (fun k_ => k_ ≠ gb314 ∧ k_ ≠ gb315) (.slice Ao13 t303.length co13) t303) := ⟨by exact Kd.V_mono (vf3_ (vf3_ (Kd.V_mono (Kd.V_mono HO305.out (fun k_ hk => (⟨hk, hk.1⟩ : _ ∧ k_ ≠ gb314))) (fun k_ hk => (⟨hk, hk.1.2⟩ : _ ∧ k_ ≠ gb315))) (fun _ hk => hk.1.2)) (fun _ hk => hk.2)) (fun _ hk => ⟨hk.1.1.1, hk.1.1.2⟩)⟩
          have n1_ : Aside0 (Kd.V (Kd.int .i64) 3 ((((((w12.setCell ⟨gb314, 0, none⟩ (.slice Ao13 t303.length co13)).setCell ⟨gb314, 1, none⟩ (.int .i64 t306)).setCell ⟨gb314, 2, none⟩ (.int .i64 t307)).setCell ⟨gb315, 0, none⟩ (.slice Ao17 t309.length co17)).setCell ⟨gb315, 1, none⟩ (.int .i64 t312)).setCell ⟨gb315, 2, none⟩ (.int .i64 t313)) w.heap.size (fun k_ => k_ ≠ gb314 ∧ k_ ≠ gb315) (.slice Ao17 t309.length co17) t309) := ⟨by exact Kd.V_mono (vf3_ (vf3_ (Kd.V_mono (Kd.V_mono HO311.out (fun k_ hk => (⟨hk, hk.1⟩ : _ ∧ k_ ≠ gb314))) (fun k_ hk => (⟨hk, hk.1.2⟩ : _ ∧ k_ ≠ gb315))) (fun _ hk => hk.1.2)) (fun _ hk => hk.2)) (fun _ hk => ⟨hk.1.1.1, hk.1.1.2⟩)⟩
          have n2_ : Aside0 (((((((w12.setCell ⟨gb314, 0, none⟩ (.slice Ao13 t303.length co13)).setCell ⟨gb314, 1, none⟩ (.int .i64 t306)).setCell ⟨gb314, 2, none⟩ (.int .i64 t307)).setCell ⟨gb315, 0, none⟩ (.slice Ao17 t309.length co17)).setCell ⟨gb315, 1, none⟩ (.int .i64 t312)).setCell ⟨gb315, 2, none⟩ (.int .i64 t313)).heap[gb314]? = some (.cells #[.slice Ao13 t303.length co13, .int .i64 t306, .int .i64 t307] 30 (0, 0))) := ⟨by refine blk_far ?_ NB314_315.out _; refine blk_far ?_ NB314_315.out _; refine blk_far ?_ NB314_315.out _; exact bp3_ BK314.out⟩
          have n3_ : Aside0 (((((((w12.setCell ⟨gb314, 0, none⟩ (.slice Ao13 t303.length co13)).setCell ⟨gb314, 1, none⟩ (.int .i64 t306)).setCell ⟨gb314, 2, none⟩ (.int .i64 t307)).setCell ⟨gb315, 0, none⟩ (.slice Ao17 t309.length co17)).setCell ⟨gb315, 1, none⟩ (.int .i64 t312)).setCell ⟨gb315, 2, none⟩ (.int .i64 t313)).heap[gb315]? = some (.cells #[.slice Ao17 t309.length co17, .int .i64 t312, .int .i64 t313] 30 (0, 0))) := ⟨by refine blk_put (cs := #[.slice Ao17 t309.length co17, .int .i64 t312, .int .i64 0]) ?_ 2 _ rfl; refine blk_put (cs := #[.slice Ao17 t309.length co17, .int .i64 0, .int .i64 0]) ?_ 1 _ rfl; refine blk_put (cs := #[.slice none 0 0, .int .i64 0, .int .i64 0]) ?_ 0 _ rfl; refine blk_far ?_ NB315_314.out _; refine blk_far ?_ NB315_314.out _; refine blk_far ?_ NB315_314.out _; exact BK315.out⟩
          have n4_ : Aside0 (Below w.heap.size w ((((((w12.setCell ⟨gb314, 0, none⟩ (.slice Ao13 t303.length co13)).setCell ⟨gb314, 1, none⟩ (.int .i64 t306)).setCell ⟨gb314, 2, none⟩ (.int .i64 t307)).setCell ⟨gb315, 0, none⟩ (.slice Ao17 t309.length co17)).setCell ⟨gb315, 1, none⟩ (.int .i64 t312)).setCell ⟨gb315, 2, none⟩ (.int .i64 t313))) := ⟨by repeat ((with_reducible first | exact HB.out | refine below_set ?_ GE314.out | refine below_set ?_ GE315.out))⟩
          (try clear HO305)
          (try clear HO311)
          (try clear BK314)
          (try clear BK315)
          (try clear HB)
          generalize ((((((w12.setCell ⟨gb314, 0, none⟩ (.slice Ao13 t303.length co13)).setCell ⟨gb314, 1, none⟩ (.int .i64 t306)).setCell ⟨gb314, 2, none⟩ (.int .i64 t307)).setCell ⟨gb315, 0, none⟩ (.slice Ao17 t309.length co17)).setCell ⟨gb315, 1, none⟩ (.int .i64 t312)).setCell ⟨gb315, 2, none⟩ (.int .i64 t313)) = w33 at n0_ n1_ n2_ n3_ n4_ ⊢
          have HO305 := n0_
          have HO311 := n1_
          have BK314 := n2_
          have BK315 := n3_
          have HB := n4_
          clear n0_ n1_ n2_ n3_ n4_
          have n0_ := Aside0.mk (Kd.V_drew HO305.out)
          have n1_ := Aside0.mk (Kd.V_drew HO311.out)
          have n2_ := Aside0.mk (blk_drew BK314.out)
          have n3_ := Aside0.mk (blk_drew BK315.out)
          have n4_ := Aside0.mk (below_drew1 HB.out)
          clear HO305 HO311 BK314 BK315 HB; have HO305 := n0_; have HO311 := n1_; have BK314 := n2_; have BK315 := n3_; have HB := n4_; clear n0_ n1_ n2_ n3_ n4_
          have p316 : 0 ≤ (x3_1 : Int) := of_decide_eq_true (by (with_reducible assumption))
          have q316 : x3_1 < (l0.length : Int) := of_decide_eq_true (by (with_reducible assumption))
          obtain ⟨ad316, A316_3, c316_3, A316_6, c316_6, e316, hx316_0, hx316_1, hx316_2, hx316_3, hx316_4, hx316_5, hx316_6, hx316_7, hx316_8, hl316_3, hi316_3, hl316_6, hi316_6⟩ := at_T76 HR0.out x3_1 p316 q316
          have hw316_8 := hx316_8
          have hw316_7 := hx316_7
          have hw316_6 := hx316_6
          have hw316_5 := hx316_5
          have hw316_4 := hx316_4
          have hw316_3 := hx316_3
          have hw316_2 := hx316_2
          have hw316_1 := hx316_1
          have hw316_0 := hx316_0
          obtain rfl : ad302 = ad316 := (by injection e316)
          replace hx316_0 := bc_ HB.out hx316_0
          replace hx316_1 := bc_ HB.out hx316_1
          replace hx316_2 := bc_ HB.out hx316_2
          replace hx316_3 := bc_ HB.out hx316_3
          replace hx316_4 := bc_ HB.out hx316_4
          replace hx316_5 := bc_ HB.out hx316_5
          replace hx316_6 := bc_ HB.out hx316_6
          replace hx316_7 := bc_ HB.out hx316_7
          replace hx316_8 := bc_ HB.out hx316_8
          have HR316_3 := Aside0.mk hi316_3
          have HC316_3 := Aside0.mk hl316_3
          clear hi316_3 hl316_3
          have HR316_6 := Aside0.mk hi316_6
          have HC316_6 := Aside0.mk hl316_6
          clear hi316_6 hl316_6
          replace p316 := eq_true p316
          replace q316 := eq_true q316
          have p320 : 0 ≤ (x3_1 : Int) := of_decide_eq_true (by (with_reducible assumption))
          have q320 : x3_1 < (l0.length : Int) := of_decide_eq_true (by (with_reducible assumption))
          obtain ⟨ad320, A320_3, c320_3, A320_6, c320_6, e320, hx320_0, hx320_1, hx320_2, hx320_3, hx320_4, hx320_5, hx320_6, hx320_7, hx320_8, hl320_3, hi320_3, hl320_6, hi320_6⟩ := at_T76 HR0.out x3_1 p320 q320
          have hw320_8 := hx320_8
          have hw320_7 := hx320_7
          have hw320_6 := hx320_6
          have hw320_5 := hx320_5
          have hw320_4 := hx320_4
          have hw320_3 := hx320_3
          have hw320_2 := hx320_2
          have hw320_1 := hx320_1
          have hw320_0 := hx320_0
          obtain rfl : ad302 = ad320 := (by injection e320)
          replace hx320_0 := bc_ HB.out hx320_0
          replace hx320_1 := bc_ HB.out hx320_1
          replace hx320_2 := bc_ HB.out hx320_2
          replace hx320_3 := bc_ HB.out hx320_3
          replace hx320_4 := bc_ HB.out hx320_4
          replace hx320_5 := bc_ HB.out hx320_5
          replace hx320_6 := bc_ HB.out hx320_6
          replace hx320_7 := bc_ HB.out hx320_7
          replace hx320_8 := bc_ HB.out hx320_8
          have HR320_3 := Aside0.mk hi320_3
          have HC320_3 := Aside0.mk hl320_3
          clear hi320_3 hl320_3
          have HR320_6 := Aside0.mk hi320_6
          have HC320_6 := Aside0.mk hl320_6
          clear hi320_6 hl320_6
          replace p320 := eq_true p320
          replace q320 := eq_true q320
          have ea_ := Option.some.inj (hx316_3.symm.trans hx320_3)
          injection ea_ with ea_ en_ ec_
          subst ea_
          subst ec_
          clear en_
          have ea_ := Option.some.inj (hx316_6.symm.trans hx320_6)
          injection ea_ with ea_ en_ ec_
          subst ea_
          subst ec_
          clear en_
          refine start_ (n := 41) (S := fun w' => w'.cell? ⟨gb314, 0, none⟩ = some (.slice Ao13 t303.length co13) ∧ w'.cell? ⟨gb314, 1, none⟩ = some (.int .i64 t306) ∧ w'.cell? ⟨gb314, 2, none⟩ = some (.int .i64 t307) ∧ w'.cell? ⟨gb315, 0, none⟩ = some (.slice Ao17 t309.length co17) ∧ w'.cell? ⟨gb315, 1, none⟩ = some (.int .i64 t312) ∧ w'.cell? ⟨gb315, 2, none⟩ = some (.int .i64 t313) ∧ hc9_ w' (ad302.add ((x3_1).toNat * 9)) (.int .i64 ((rd_T76 l0 x3_1).f0.f0)) (.int .i64 ((rd_T76 l0 x3_1).f0.f1)) (.int .i64 ((rd_T76 l0 x3_1).f0.f2)) (.slice A316_3 ((rd_T76 l0 x3_1).f1.f0).length c316_3) (.int .i64 ((rd_T76 l0 x3_1).f1.f1)) (.int .i64 ((rd_T76 l0 x3_1).f1.f2)) (.slice A316_6 ((rd_T76 l0 x3_1).f2.f0).length c316_6) (.int .i64 ((rd_T76 l0 x3_1).f2.f1)) (.int .i64 ((rd_T76 l0 x3_1).f2.f2)) (he9_ w' (ad302.add ((x3_1).toNat * 9)) (.int .i64 ((rd_T76 l0 x3_1).f0.f0)) (.int .i64 ((rd_T76 l0 x3_1).f0.f1)) (.int .i64 ((rd_T76 l0 x3_1).f0.f2)) (.slice A316_3 ((rd_T76 l0 x3_1).f1.f0).length c316_3) (.int .i64 ((rd_T76 l0 x3_1).f1.f1)) (.int .i64 ((rd_T76 l0 x3_1).f1.f2)) (.slice A316_6 ((rd_T76 l0 x3_1).f2.f0).length c316_6) (.int .i64 ((rd_T76 l0 x3_1).f2.f1)) (.int .i64 ((rd_T76 l0 x3_1).f2.f2)))) (ds := []) #[false, false, false, false, false, false, false, false, false, false, false, false, false, false, false, false, false, false, false, false, false, false, false, false, false, false, false, false, false, false, false, false, false, false, false, false, false, false, false, false, false] (by kernel_rfl) rfl rfl ⟨(blk_cell BK314.out 0).trans rfl, (blk_cell BK314.out 1).trans rfl, (blk_cell BK314.out 2).trans rfl, (blk_cell BK315.out 0).trans rfl, (blk_cell BK315.out 1).trans rfl, (blk_cell BK315.out 2).trans rfl, bc_ HB.out hw316_0, bc_ HB.out hw316_1, bc_ HB.out hw316_2, bc_ HB.out hw316_3, bc_ HB.out hw316_4, bc_ HB.out hw316_5, bc_ HB.out hw316_6, bc_ HB.out hw316_7, bc_ HB.out hw316_8, bc_ HB.out hw320_0, bc_ HB.out hw320_1, bc_ HB.out hw320_2, bc_ HB.out hw320_3, bc_ HB.out hw320_4, bc_ HB.out hw320_5, bc_ HB.out hw320_6, bc_ HB.out hw320_7, bc_ HB.out hw320_8⟩ (fun hHeld => ?_); refine with_tabW remontoirlaw18_right.tab5 remontoirlaw18_right.bits5 (fun HT_ HW_ => ?_)
          generalize w33.drew = w34 at HO305 HO311 BK314 BK315 HB HR316_3 HR316_6 HR320_3 HR320_6 hx316_0 hx316_1 hx316_2 hx316_3 hx316_4 hx316_5 hx316_6 hx316_7 hx316_8 hx320_0 hx320_1 hx320_2 hx320_3 hx320_4 hx320_5 hx320_6 hx320_7 hx320_8 hHeld ⊢
          refine pa_ 0 24 (bm 41 0x1) HT_ (h := ?_)
          refine pa_ 1 25 (bm 41 0x3) HT_ (h := ?_)
          refine pa_ 2 26 (bm 41 0x7) HT_ (h := ?_)
          refine pa_ 3 27 (bm 41 0xf) HT_ (h := ?_)
          refine take_ (i := 4) (N := some 28) (v := ?_) (a' := ?_) (bm 41 0x1f) rfl rfl (take_ofW HT_.out HW_.out (by kernel_rfl)) (fun _ _ _ h => h) (Or.inl ⟨by rfl, ?_⟩) hHeld ?_ ?_
          rotate_left
          ·
           rintro w' ⟨s0, s1, s2, s3, s4, s5, s6, s7, s8, s9, s10, s11, s12, s13, s14, s15, s16, s17, s18, s19, s20, s21, s22, s23⟩
           go_simp
           with_reducible rfl
          rotate_left
          ·
           simp only [Act.put, sbA, sbB, sbC, i64_w, i32_w]
           rfl
          refine one_ (i := 5) (N := some 29) (bm 41 0x3f) rfl rfl (one_of HT_.out (by kernel_rfl)) (by decide) (fun K hK => ?_)
          refine goes_ Try.func45 (by kernel_rfl) rfl #[.agg #[.int .i64 ((rd_T76 l0 x3_1).f0.f0), .int .i64 ((rd_T76 l0 x3_1).f0.f1), .int .i64 ((rd_T76 l0 x3_1).f0.f2)]] (by rfl) rfl rfl (by (try simp only [List.map_toArray, List.map_cons, List.map_nil]); rfl) ?_
          with_reducible refine (remontoirref18_May.calls ((rd_T76 l0 x3_1).f0.f0) ((rd_T76 l0 x3_1).f0.f1) ((rd_T76 l0 x3_1).f0.f2) true _ A21.out).mono ?_
          rintro e w35 ⟨rfl, hb⟩
          refine ⟨_, rfl, ?_⟩
          replace HO305 := vb_ HO305 hb; replace HO311 := vb_ HO311 hb; replace BK314 := kb_ BK314 hb; replace BK315 := kb_ BK315 hb; replace HB := hb_ HB hb
          (try clear hb)
          (try clear hb2)
          (try clear hk)
          (try clear hi)
          refine hK.out _ _ ⟨(blk_cell BK314.out 0).trans rfl, (blk_cell BK314.out 1).trans rfl, (blk_cell BK314.out 2).trans rfl, (blk_cell BK315.out 0).trans rfl, (blk_cell BK315.out 1).trans rfl, (blk_cell BK315.out 2).trans rfl, bc_ HB.out hw316_0, bc_ HB.out hw316_1, bc_ HB.out hw316_2, bc_ HB.out hw316_3, bc_ HB.out hw316_4, bc_ HB.out hw316_5, bc_ HB.out hw316_6, bc_ HB.out hw316_7, bc_ HB.out hw316_8, bc_ HB.out hw320_0, bc_ HB.out hw320_1, bc_ HB.out hw320_2, bc_ HB.out hw320_3, bc_ HB.out hw320_4, bc_ HB.out hw320_5, bc_ HB.out hw320_6, bc_ HB.out hw320_7, bc_ HB.out hw320_8⟩ (fun hHeld => ?_)
          clear hK K
          refine nm_ 29 (h := ?_)
          refine pa_ 6 30 (bm 41 0x7f) HT_ (h := ?_)
          refine pa_ 7 31 (bm 41 0xff) HT_ (h := ?_)
          refine take_ (i := 8) (N := some 32) (v := ?_) (a' := ?_) (bm 41 0x1ff) rfl rfl (take_ofW HT_.out HW_.out (by kernel_rfl)) (fun _ _ _ h => h) (Or.inl ⟨by rfl, ?_⟩) hHeld ?_ ?_
          rotate_left
          ·
           rintro w' ⟨s0, s1, s2, s3, s4, s5, s6, s7, s8, s9, s10, s11, s12, s13, s14, s15, s16, s17, s18, s19, s20, s21, s22, s23⟩
           go_simp
           with_reducible rfl
          rotate_left
          ·
           simp only [Act.put, sbA, sbB, sbC, i64_w, i32_w]
           rfl
          refine one_ (i := 9) (N := some 33) (bm 41 0x3ff) rfl rfl (one_of HT_.out (by kernel_rfl)) (by decide) (fun K hK => ?_)
          refine goes_ Try.func14 (by kernel_rfl) rfl #[.agg #[.slice Ao13 t303.length co13, .int .i64 t306, .int .i64 t307]] (by rfl) rfl rfl (by (try simp only [List.map_toArray, List.map_cons, List.map_nil]); rfl) ?_
          with_reducible refine (remontoirref03_Right.calls _ _ t303 t306 t307 true _ ?side1 ?side2 A23.out).mono ?_
          (case side1 => repeat ((exact (Kd.V_reads' HO305.out).2.2)))
          (case side2 => exact (Kd.V_reads' HO305.out).2.1)
          rintro e w36 ⟨rfl, hb⟩
          refine ⟨_, rfl, ?_⟩
          replace HO305 := vb_ HO305 hb; replace HO311 := vb_ HO311 hb; replace BK314 := kb_ BK314 hb; replace BK315 := kb_ BK315 hb; replace HB := hb_ HB hb
          (try clear hb)
          (try clear hb2)
          (try clear hk)
          (try clear hi)
          refine hK.out _ _ ⟨(blk_cell BK314.out 0).trans rfl, (blk_cell BK314.out 1).trans rfl, (blk_cell BK314.out 2).trans rfl, (blk_cell BK315.out 0).trans rfl, (blk_cell BK315.out 1).trans rfl, (blk_cell BK315.out 2).trans rfl, bc_ HB.out hw316_0, bc_ HB.out hw316_1, bc_ HB.out hw316_2, bc_ HB.out hw316_3, bc_ HB.out hw316_4, bc_ HB.out hw316_5, bc_ HB.out hw316_6, bc_ HB.out hw316_7, bc_ HB.out hw316_8, bc_ HB.out hw320_0, bc_ HB.out hw320_1, bc_ HB.out hw320_2, bc_ HB.out hw320_3, bc_ HB.out hw320_4, bc_ HB.out hw320_5, bc_ HB.out hw320_6, bc_ HB.out hw320_7, bc_ HB.out hw320_8⟩ (fun hHeld => ?_)
          clear hK K
          refine nm_ 33 (h := ?_)
          refine pa_ 10 34 (bm 41 0x7ff) HT_ (h := ?_)
          refine pa_ 11 35 (bm 41 0xfff) HT_ (h := ?_)
          refine pa_ 12 36 (bm 41 0x1fff) HT_ (h := ?_)
          refine take_ (i := 13) (N := some 37) (v := ?_) (a' := ?_) (bm 41 0x3fff) rfl rfl (take_ofW HT_.out HW_.out (by kernel_rfl)) (fun _ _ _ h => h) (Or.inl ⟨by rfl, ?_⟩) hHeld ?_ ?_
          rotate_left
          ·
           rintro w' ⟨s0, s1, s2, s3, s4, s5, s6, s7, s8, s9, s10, s11, s12, s13, s14, s15, s16, s17, s18, s19, s20, s21, s22, s23⟩
           go_simp
           with_reducible rfl
          rotate_left
          ·
           simp only [Act.put, sbA, sbB, sbC, i64_w, i32_w]
           rfl
          refine one_ (i := 14) (N := some 38) (bm 41 0x7fff) rfl rfl (one_of HT_.out (by kernel_rfl)) (by decide) (fun K hK => ?_)
          refine goes_ Try.func14 (by kernel_rfl) rfl #[.agg #[.slice Ao17 t309.length co17, .int .i64 t312, .int .i64 t313]] (by rfl) rfl rfl (by (try simp only [List.map_toArray, List.map_cons, List.map_nil]); rfl) ?_
          with_reducible refine (remontoirref03_Right.calls _ _ t309 t312 t313 true _ ?side1 ?side2 A25.out).mono ?_
          (case side1 => repeat ((exact (Kd.V_reads' HO311.out).2.2)))
          (case side2 => exact (Kd.V_reads' HO311.out).2.1)
          rintro e w37 ⟨rfl, hb⟩
          refine ⟨_, rfl, ?_⟩
          replace HO305 := vb_ HO305 hb; replace HO311 := vb_ HO311 hb; replace BK314 := kb_ BK314 hb; replace BK315 := kb_ BK315 hb; replace HB := hb_ HB hb
          (try clear hb)
          (try clear hb2)
          (try clear hk)
          (try clear hi)
          refine hK.out _ _ ⟨(blk_cell BK314.out 0).trans rfl, (blk_cell BK314.out 1).trans rfl, (blk_cell BK314.out 2).trans rfl, (blk_cell BK315.out 0).trans rfl, (blk_cell BK315.out 1).trans rfl, (blk_cell BK315.out 2).trans rfl, bc_ HB.out hw316_0, bc_ HB.out hw316_1, bc_ HB.out hw316_2, bc_ HB.out hw316_3, bc_ HB.out hw316_4, bc_ HB.out hw316_5, bc_ HB.out hw316_6, bc_ HB.out hw316_7, bc_ HB.out hw316_8, bc_ HB.out hw320_0, bc_ HB.out hw320_1, bc_ HB.out hw320_2, bc_ HB.out hw320_3, bc_ HB.out hw320_4, bc_ HB.out hw320_5, bc_ HB.out hw320_6, bc_ HB.out hw320_7, bc_ HB.out hw320_8⟩ (fun hHeld => ?_)
          clear hK K
          refine nm_ 38 (h := ?_)
          refine pa_ 15 39 (bm 41 0xffff) HT_ (h := ?_)
          refine pa_ 16 40 (bm 41 0x1ffff) HT_ (h := ?_)
          refine pa_ 17 41 (bm 41 0x3ffff) HT_ (h := ?_)
          refine pa_ 18 42 (bm 41 0x7ffff) HT_ (h := ?_)
          refine pa_ 21 45 (bm 41 0x27ffff) HT_ (h := ?_)
          refine pa_ 22 46 (bm 41 0x67ffff) HT_ (h := ?_)
          refine pa_ 23 47 (bm 41 0xe7ffff) HT_ (h := ?_)
          refine pa_ 24 48 (bm 41 0x1e7ffff) HT_ (h := ?_)
          refine pa_ 25 49 (bm 41 0x3e7ffff) HT_ (h := ?_)
          refine take_ (i := 19) (N := some 43) (v := ?_) (a' := ?_) (bm 41 0x3efffff) rfl rfl (take_ofW HT_.out HW_.out (by kernel_rfl)) (fun _ _ _ h => h) (Or.inl ⟨by rfl, ?_⟩) hHeld ?_ ?_
          rotate_left
          ·
           rintro w' ⟨s0, s1, s2, s3, s4, s5, s6, s7, s8, s9, s10, s11, s12, s13, s14, s15, s16, s17, s18, s19, s20, s21, s22, s23⟩
           go_simp
           with_reducible rfl
          rotate_left
          ·
           simp only [Act.put, sbA, sbB, sbC, i64_w, i32_w]
           rfl
          refine pa_ 20 44 (bm 41 0x3ffffff) HT_ (h := ?_)
          refine take_ (i := 26) (N := some 50) (v := ?_) (a' := ?_) (bm 41 0x7ffffff) rfl rfl (take_ofW HT_.out HW_.out (by kernel_rfl)) (fun _ _ _ h => h) (Or.inl ⟨by rfl, ?_⟩) hHeld ?_ ?_
          rotate_left
          ·
           rintro w' ⟨s0, s1, s2, s3, s4, s5, s6, s7, s8, s9, s10, s11, s12, s13, s14, s15, s16, s17, s18, s19, s20, s21, s22, s23⟩
           go_simp
           with_reducible rfl
          rotate_left
          ·
           simp only [Act.put, sbA, sbB, sbC, i64_w, i32_w]
           rfl
          refine pa_ 27 51 (bm 41 0xfffffff) HT_ (h := ?_)
          refine pa_ 28 52 (bm 41 0x1fffffff) HT_ (h := ?_)
          refine pa_ 29 53 (bm 41 0x3fffffff) HT_ (h := ?_)
          refine pz_ 30 54 (bm 41 0x7fffffff) HT_ (h := ?_)
          refine pz_ 31 55 (bm 41 0xffffffff) HT_ (h := ?_)
          refine pz_ 32 56 (bm 41 0x1ffffffff) HT_ (h := ?_)
          refine pz_ 33 57 (bm 41 0x3ffffffff) HT_ (h := ?_)
          refine pz_ 34 58 (bm 41 0x7ffffffff) HT_ (h := ?_)
          refine pz_ 35 59 (bm 41 0xfffffffff) HT_ (h := ?_)
          refine pz_ 36 60 (bm 41 0x1fffffffff) HT_ (h := ?_)
          refine pz_ 37 61 (bm 41 0x3fffffffff) HT_ (h := ?_)
          refine pz_ 38 62 (bm 41 0x7fffffffff) HT_ (h := ?_)
          refine pz_ 39 63 (bm 41 0xffffffffff) HT_ (h := ?_)
          refine pa_ 40 64 (bm 41 0x1ffffffffff) HT_ (h := ?_)
          refine done_ (done_of HT_.out (by kernel_rfl)) ?_
          try go_wp2
          go_meet
          case rel => exact ⟨_, (true), (by rfl), H', ⟨by have := HK1.out; omega⟩, ⟨HO305.out⟩, ⟨HO311.out⟩, ⟨BK314.out⟩, ⟨BK315.out⟩, ⟨HB.out⟩⟩
        ·
         replace c26 := Bool.eq_false_iff.mpr c26
         subst c26
         have H1 : (remontoirlaw18_right.j1 k1 l0 x3_1 true) = some r := by rw [if_neg (show ¬ (false = true) by decide)] at H; exact H
         clear H
         have H := H1
         clear H1
         have H' := Aside0.mk H
         clear H
         try go_wp2
         have n0_ : Aside0 (Kd.V (Kd.int .i64) 3 ((((((w12.setCell ⟨gb314, 0, none⟩ (.slice Ao13 t303.length co13)).setCell ⟨gb314, 1, none⟩ (.int .i64 t306)).setCell ⟨gb314, 2, none⟩ (.int .i64 t307)).setCell ⟨gb315, 0, none⟩ (.slice Ao17 t309.length co17)).setCell ⟨gb315, 1, none⟩ (.int .i64 t312)).setCell ⟨gb315, 2, none⟩ (.int .i64 t313)) w.heap.size (fun k_ => k_ ≠ gb314 ∧ k_ ≠ gb315) (.slice Ao13 t303.length co13) t303) := ⟨by exact Kd.V_mono (vf3_ (vf3_ (Kd.V_mono (Kd.V_mono HO305.out (fun k_ hk => (⟨hk, hk.1⟩ : _ ∧ k_ ≠ gb314))) (fun k_ hk => (⟨hk, hk.1.2⟩ : _ ∧ k_ ≠ gb315))) (fun _ hk => hk.1.2)) (fun _ hk => hk.2)) (fun _ hk => ⟨hk.1.1.1, hk.1.1.2⟩)⟩
         have n1_ : Aside0 (Kd.V (Kd.int .i64) 3 ((((((w12.setCell ⟨gb314, 0, none⟩ (.slice Ao13 t303.length co13)).setCell ⟨gb314, 1, none⟩ (.int .i64 t306)).setCell ⟨gb314, 2, none⟩ (.int .i64 t307)).setCell ⟨gb315, 0, none⟩ (.slice Ao17 t309.length co17)).setCell ⟨gb315, 1, none⟩ (.int .i64 t312)).setCell ⟨gb315, 2, none⟩ (.int .i64 t313)) w.heap.size (fun k_ => k_ ≠ gb314 ∧ k_ ≠ gb315) (.slice Ao17 t309.length co17) t309) := ⟨by exact Kd.V_mono (vf3_ (vf3_ (Kd.V_mono (Kd.V_mono HO311.out (fun k_ hk => (⟨hk, hk.1⟩ : _ ∧ k_ ≠ gb314))) (fun k_ hk => (⟨hk, hk.1.2⟩ : _ ∧ k_ ≠ gb315))) (fun _ hk => hk.1.2)) (fun _ hk => hk.2)) (fun _ hk => ⟨hk.1.1.1, hk.1.1.2⟩)⟩
         have n2_ : Aside0 (((((((w12.setCell ⟨gb314, 0, none⟩ (.slice Ao13 t303.length co13)).setCell ⟨gb314, 1, none⟩ (.int .i64 t306)).setCell ⟨gb314, 2, none⟩ (.int .i64 t307)).setCell ⟨gb315, 0, none⟩ (.slice Ao17 t309.length co17)).setCell ⟨gb315, 1, none⟩ (.int .i64 t312)).setCell ⟨gb315, 2, none⟩ (.int .i64 t313)).heap[gb314]? = some (.cells #[.slice Ao13 t303.length co13, .int .i64 t306, .int .i64 t307] 30 (0, 0))) := ⟨by refine blk_far ?_ NB314_315.out _; refine blk_far ?_ NB314_315.out _; refine blk_far ?_ NB314_315.out _; exact bp3_ BK314.out⟩
         have n3_ : Aside0 (((((((w12.setCell ⟨gb314, 0, none⟩ (.slice Ao13 t303.length co13)).setCell ⟨gb314, 1, none⟩ (.int .i64 t306)).setCell ⟨gb314, 2, none⟩ (.int .i64 t307)).setCell ⟨gb315, 0, none⟩ (.slice Ao17 t309.length co17)).setCell ⟨gb315, 1, none⟩ (.int .i64 t312)).setCell ⟨gb315, 2, none⟩ (.int .i64 t313)).heap[gb315]? = some (.cells #[.slice Ao17 t309.length co17, .int .i64 t312, .int .i64 t313] 30 (0, 0))) := ⟨by refine blk_put (cs := #[.slice Ao17 t309.length co17, .int .i64 t312, .int .i64 0]) ?_ 2 _ rfl; refine blk_put (cs := #[.slice Ao17 t309.length co17, .int .i64 0, .int .i64 0]) ?_ 1 _ rfl; refine blk_put (cs := #[.slice none 0 0, .int .i64 0, .int .i64 0]) ?_ 0 _ rfl; refine blk_far ?_ NB315_314.out _; refine blk_far ?_ NB315_314.out _; refine blk_far ?_ NB315_314.out _; exact BK315.out⟩
         have n4_ : Aside0 (Below w.heap.size w ((((((w12.setCell ⟨gb314, 0, none⟩ (.slice Ao13 t303.length co13)).setCell ⟨gb314, 1, none⟩ (.int .i64 t306)).setCell ⟨gb314, 2, none⟩ (.int .i64 t307)).setCell ⟨gb315, 0, none⟩ (.slice Ao17 t309.length co17)).setCell ⟨gb315, 1, none⟩ (.int .i64 t312)).setCell ⟨gb315, 2, none⟩ (.int .i64 t313))) := ⟨by repeat ((with_reducible first | exact HB.out | refine below_set ?_ GE314.out | refine below_set ?_ GE315.out))⟩
         (try clear HO305)
         (try clear HO311)
         (try clear BK314)
         (try clear BK315)
         (try clear HB)
         generalize ((((((w12.setCell ⟨gb314, 0, none⟩ (.slice Ao13 t303.length co13)).setCell ⟨gb314, 1, none⟩ (.int .i64 t306)).setCell ⟨gb314, 2, none⟩ (.int .i64 t307)).setCell ⟨gb315, 0, none⟩ (.slice Ao17 t309.length co17)).setCell ⟨gb315, 1, none⟩ (.int .i64 t312)).setCell ⟨gb315, 2, none⟩ (.int .i64 t313)) = w38 at n0_ n1_ n2_ n3_ n4_ ⊢
         have HO305 := n0_
         have HO311 := n1_
         have BK314 := n2_
         have BK315 := n3_
         have HB := n4_
         clear n0_ n1_ n2_ n3_ n4_
         have n0_ := Aside0.mk (Kd.V_drew HO305.out)
         have n1_ := Aside0.mk (Kd.V_drew HO311.out)
         have n2_ := Aside0.mk (blk_drew BK314.out)
         have n3_ := Aside0.mk (blk_drew BK315.out)
         have n4_ := Aside0.mk (below_drew1 HB.out)
         clear HO305 HO311 BK314 BK315 HB; have HO305 := n0_; have HO311 := n1_; have BK314 := n2_; have BK315 := n3_; have HB := n4_; clear n0_ n1_ n2_ n3_ n4_
         have p316 : 0 ≤ (x3_1 : Int) := of_decide_eq_true (by (with_reducible assumption))
         have q316 : x3_1 < (l0.length : Int) := of_decide_eq_true (by (with_reducible assumption))
         obtain ⟨ad316, A316_3, c316_3, A316_6, c316_6, e316, hx316_0, hx316_1, hx316_2, hx316_3, hx316_4, hx316_5, hx316_6, hx316_7, hx316_8, hl316_3, hi316_3, hl316_6, hi316_6⟩ := at_T76 HR0.out x3_1 p316 q316
         have hw316_8 := hx316_8
         have hw316_7 := hx316_7
         have hw316_6 := hx316_6
         have hw316_5 := hx316_5
         have hw316_4 := hx316_4
         have hw316_3 := hx316_3
         have hw316_2 := hx316_2
         have hw316_1 := hx316_1
         have hw316_0 := hx316_0
         obtain rfl : ad302 = ad316 := (by injection e316)
         replace hx316_0 := bc_ HB.out hx316_0
         replace hx316_1 := bc_ HB.out hx316_1
         replace hx316_2 := bc_ HB.out hx316_2
         replace hx316_3 := bc_ HB.out hx316_3
         replace hx316_4 := bc_ HB.out hx316_4
         replace hx316_5 := bc_ HB.out hx316_5
         replace hx316_6 := bc_ HB.out hx316_6
         replace hx316_7 := bc_ HB.out hx316_7
         replace hx316_8 := bc_ HB.out hx316_8
         have HR316_3 := Aside0.mk hi316_3
         have HC316_3 := Aside0.mk hl316_3
         clear hi316_3 hl316_3
         have HR316_6 := Aside0.mk hi316_6
         have HC316_6 := Aside0.mk hl316_6
         clear hi316_6 hl316_6
         replace p316 := eq_true p316
         replace q316 := eq_true q316
         refine start_ (n := 41) (S := fun w' => w'.cell? ⟨gb314, 0, none⟩ = some (.slice Ao13 t303.length co13) ∧ w'.cell? ⟨gb314, 1, none⟩ = some (.int .i64 t306) ∧ w'.cell? ⟨gb314, 2, none⟩ = some (.int .i64 t307) ∧ w'.cell? ⟨gb315, 0, none⟩ = some (.slice Ao17 t309.length co17) ∧ w'.cell? ⟨gb315, 1, none⟩ = some (.int .i64 t312) ∧ w'.cell? ⟨gb315, 2, none⟩ = some (.int .i64 t313) ∧ he9_ w' (ad302.add ((x3_1).toNat * 9)) (.int .i64 ((rd_T76 l0 x3_1).f0.f0)) (.int .i64 ((rd_T76 l0 x3_1).f0.f1)) (.int .i64 ((rd_T76 l0 x3_1).f0.f2)) (.slice A316_3 ((rd_T76 l0 x3_1).f1.f0).length c316_3) (.int .i64 ((rd_T76 l0 x3_1).f1.f1)) (.int .i64 ((rd_T76 l0 x3_1).f1.f2)) (.slice A316_6 ((rd_T76 l0 x3_1).f2.f0).length c316_6) (.int .i64 ((rd_T76 l0 x3_1).f2.f1)) (.int .i64 ((rd_T76 l0 x3_1).f2.f2))) (ds := []) #[false, false, false, false, false, false, false, false, false, false, false, false, false, false, false, false, false, false, false, false, false, false, false, false, false, false, false, false, false, false, false, false, false, false, false, false, false, false, false, false, false] (by kernel_rfl) rfl rfl ⟨(blk_cell BK314.out 0).trans rfl, (blk_cell BK314.out 1).trans rfl, (blk_cell BK314.out 2).trans rfl, (blk_cell BK315.out 0).trans rfl, (blk_cell BK315.out 1).trans rfl, (blk_cell BK315.out 2).trans rfl, bc_ HB.out hw316_0, bc_ HB.out hw316_1, bc_ HB.out hw316_2, bc_ HB.out hw316_3, bc_ HB.out hw316_4, bc_ HB.out hw316_5, bc_ HB.out hw316_6, bc_ HB.out hw316_7, bc_ HB.out hw316_8⟩ (fun hHeld => ?_); refine with_tabW remontoirlaw18_right.tab5 remontoirlaw18_right.bits5 (fun HT_ HW_ => ?_)
         generalize w38.drew = w39 at HO305 HO311 BK314 BK315 HB HR316_3 HR316_6 hx316_0 hx316_1 hx316_2 hx316_3 hx316_4 hx316_5 hx316_6 hx316_7 hx316_8 hHeld ⊢
         refine pa_ 0 24 (bm 41 0x1) HT_ (h := ?_)
         refine pa_ 1 25 (bm 41 0x3) HT_ (h := ?_)
         refine pa_ 2 26 (bm 41 0x7) HT_ (h := ?_)
         refine pa_ 3 27 (bm 41 0xf) HT_ (h := ?_)
         refine take_ (i := 4) (N := some 28) (v := ?_) (a' := ?_) (bm 41 0x1f) rfl rfl (take_ofW HT_.out HW_.out (by kernel_rfl)) (fun _ _ _ h => h) (Or.inl ⟨by rfl, ?_⟩) hHeld ?_ ?_
         rotate_left
         ·
          rintro w' ⟨s0, s1, s2, s3, s4, s5, s6, s7, s8, s9, s10, s11, s12, s13, s14⟩
          go_simp
          with_reducible rfl
         rotate_left
         ·
          simp only [Act.put, sbA, sbB, sbC, i64_w, i32_w]
          rfl
         refine one_ (i := 5) (N := some 29) (bm 41 0x3f) rfl rfl (one_of HT_.out (by kernel_rfl)) (by decide) (fun K hK => ?_)
         refine goes_ Try.func45 (by kernel_rfl) rfl #[.agg #[.int .i64 ((rd_T76 l0 x3_1).f0.f0), .int .i64 ((rd_T76 l0 x3_1).f0.f1), .int .i64 ((rd_T76 l0 x3_1).f0.f2)]] (by rfl) rfl rfl (by (try simp only [List.map_toArray, List.map_cons, List.map_nil]); rfl) ?_
         with_reducible refine (remontoirref18_May.calls ((rd_T76 l0 x3_1).f0.f0) ((rd_T76 l0 x3_1).f0.f1) ((rd_T76 l0 x3_1).f0.f2) true _ A21.out).mono ?_
         rintro e w40 ⟨rfl, hb⟩
         refine ⟨_, rfl, ?_⟩
         replace HO305 := vb_ HO305 hb; replace HO311 := vb_ HO311 hb; replace BK314 := kb_ BK314 hb; replace BK315 := kb_ BK315 hb; replace HB := hb_ HB hb
         (try clear hb)
         (try clear hb2)
         (try clear hk)
         (try clear hi)
         refine hK.out _ _ ⟨(blk_cell BK314.out 0).trans rfl, (blk_cell BK314.out 1).trans rfl, (blk_cell BK314.out 2).trans rfl, (blk_cell BK315.out 0).trans rfl, (blk_cell BK315.out 1).trans rfl, (blk_cell BK315.out 2).trans rfl, bc_ HB.out hw316_0, bc_ HB.out hw316_1, bc_ HB.out hw316_2, bc_ HB.out hw316_3, bc_ HB.out hw316_4, bc_ HB.out hw316_5, bc_ HB.out hw316_6, bc_ HB.out hw316_7, bc_ HB.out hw316_8⟩ (fun hHeld => ?_)
         clear hK K
         refine nm_ 29 (h := ?_)
         refine pa_ 6 30 (bm 41 0x7f) HT_ (h := ?_)
         refine pa_ 7 31 (bm 41 0xff) HT_ (h := ?_)
         refine take_ (i := 8) (N := some 32) (v := ?_) (a' := ?_) (bm 41 0x1ff) rfl rfl (take_ofW HT_.out HW_.out (by kernel_rfl)) (fun _ _ _ h => h) (Or.inl ⟨by rfl, ?_⟩) hHeld ?_ ?_
         rotate_left
         ·
          rintro w' ⟨s0, s1, s2, s3, s4, s5, s6, s7, s8, s9, s10, s11, s12, s13, s14⟩
          go_simp
          with_reducible rfl
         rotate_left
         ·
          simp only [Act.put, sbA, sbB, sbC, i64_w, i32_w]
          rfl
         refine one_ (i := 9) (N := some 33) (bm 41 0x3ff) rfl rfl (one_of HT_.out (by kernel_rfl)) (by decide) (fun K hK => ?_)
         refine goes_ Try.func14 (by kernel_rfl) rfl #[.agg #[.slice Ao13 t303.length co13, .int .i64 t306, .int .i64 t307]] (by rfl) rfl rfl (by (try simp only [List.map_toArray, List.map_cons, List.map_nil]); rfl) ?_
         with_reducible refine (remontoirref03_Right.calls _ _ t303 t306 t307 true _ ?side1 ?side2 A23.out).mono ?_
         (case side1 => repeat ((exact (Kd.V_reads' HO305.out).2.2)))
         (case side2 => exact (Kd.V_reads' HO305.out).2.1)
         rintro e w41 ⟨rfl, hb⟩
         refine ⟨_, rfl, ?_⟩
         replace HO305 := vb_ HO305 hb; replace HO311 := vb_ HO311 hb; replace BK314 := kb_ BK314 hb; replace BK315 := kb_ BK315 hb; replace HB := hb_ HB hb
         (try clear hb)
         (try clear hb2)
         (try clear hk)
         (try clear hi)
         refine hK.out _ _ ⟨(blk_cell BK314.out 0).trans rfl, (blk_cell BK314.out 1).trans rfl, (blk_cell BK314.out 2).trans rfl, (blk_cell BK315.out 0).trans rfl, (blk_cell BK315.out 1).trans rfl, (blk_cell BK315.out 2).trans rfl, bc_ HB.out hw316_0, bc_ HB.out hw316_1, bc_ HB.out hw316_2, bc_ HB.out hw316_3, bc_ HB.out hw316_4, bc_ HB.out hw316_5, bc_ HB.out hw316_6, bc_ HB.out hw316_7, bc_ HB.out hw316_8⟩ (fun hHeld => ?_)
         clear hK K
         refine nm_ 33 (h := ?_)
         refine pa_ 10 34 (bm 41 0x7ff) HT_ (h := ?_)
         refine pa_ 11 35 (bm 41 0xfff) HT_ (h := ?_)
         refine pa_ 12 36 (bm 41 0x1fff) HT_ (h := ?_)
         refine take_ (i := 13) (N := some 37) (v := ?_) (a' := ?_) (bm 41 0x3fff) rfl rfl (take_ofW HT_.out HW_.out (by kernel_rfl)) (fun _ _ _ h => h) (Or.inl ⟨by rfl, ?_⟩) hHeld ?_ ?_
         rotate_left
         ·
          rintro w' ⟨s0, s1, s2, s3, s4, s5, s6, s7, s8, s9, s10, s11, s12, s13, s14⟩
          go_simp
          with_reducible rfl
         rotate_left
         ·
          simp only [Act.put, sbA, sbB, sbC, i64_w, i32_w]
          rfl
         refine one_ (i := 14) (N := some 38) (bm 41 0x7fff) rfl rfl (one_of HT_.out (by kernel_rfl)) (by decide) (fun K hK => ?_)
         refine goes_ Try.func14 (by kernel_rfl) rfl #[.agg #[.slice Ao17 t309.length co17, .int .i64 t312, .int .i64 t313]] (by rfl) rfl rfl (by (try simp only [List.map_toArray, List.map_cons, List.map_nil]); rfl) ?_
         with_reducible refine (remontoirref03_Right.calls _ _ t309 t312 t313 false _ ?side1 ?side2 A25.out).mono ?_
         (case side1 => repeat ((exact (Kd.V_reads' HO311.out).2.2)))
         (case side2 => exact (Kd.V_reads' HO311.out).2.1)
         rintro e w42 ⟨rfl, hb⟩
         refine ⟨_, rfl, ?_⟩
         replace HO305 := vb_ HO305 hb; replace HO311 := vb_ HO311 hb; replace BK314 := kb_ BK314 hb; replace BK315 := kb_ BK315 hb; replace HB := hb_ HB hb
         (try clear hb)
         (try clear hb2)
         (try clear hk)
         (try clear hi)
         refine hK.out _ _ ⟨(blk_cell BK314.out 0).trans rfl, (blk_cell BK314.out 1).trans rfl, (blk_cell BK314.out 2).trans rfl, (blk_cell BK315.out 0).trans rfl, (blk_cell BK315.out 1).trans rfl, (blk_cell BK315.out 2).trans rfl, bc_ HB.out hw316_0, bc_ HB.out hw316_1, bc_ HB.out hw316_2, bc_ HB.out hw316_3, bc_ HB.out hw316_4, bc_ HB.out hw316_5, bc_ HB.out hw316_6, bc_ HB.out hw316_7, bc_ HB.out hw316_8⟩ (fun hHeld => ?_)
         clear hK K
         refine nm_ 38 (h := ?_)
         refine pa_ 15 39 (bm 41 0xffff) HT_ (h := ?_)
         refine pa_ 16 40 (bm 41 0x1ffff) HT_ (h := ?_)
         refine pa_ 17 41 (bm 41 0x3ffff) HT_ (h := ?_)
         refine pz_ 18 42 (bm 41 0x7ffff) HT_ (h := ?_)
         refine pz_ 19 43 (bm 41 0xfffff) HT_ (h := ?_)
         refine pz_ 20 44 (bm 41 0x1fffff) HT_ (h := ?_)
         refine pz_ 21 45 (bm 41 0x3fffff) HT_ (h := ?_)
         refine pz_ 22 46 (bm 41 0x7fffff) HT_ (h := ?_)
         refine pz_ 23 47 (bm 41 0xffffff) HT_ (h := ?_)
         refine pz_ 24 48 (bm 41 0x1ffffff) HT_ (h := ?_)
         refine pz_ 25 49 (bm 41 0x3ffffff) HT_ (h := ?_)
         refine pz_ 26 50 (bm 41 0x7ffffff) HT_ (h := ?_)
         refine pz_ 27 51 (bm 41 0xfffffff) HT_ (h := ?_)
         refine pa_ 28 52 (bm 41 0x1fffffff) HT_ (h := ?_)
         refine pa_ 29 53 (bm 41 0x3fffffff) HT_ (h := ?_)
         refine pz_ 30 54 (bm 41 0x7fffffff) HT_ (h := ?_)
         refine pz_ 31 55 (bm 41 0xffffffff) HT_ (h := ?_)
         refine pz_ 32 56 (bm 41 0x1ffffffff) HT_ (h := ?_)
         refine pz_ 33 57 (bm 41 0x3ffffffff) HT_ (h := ?_)
         refine pz_ 34 58 (bm 41 0x7ffffffff) HT_ (h := ?_)
         refine pz_ 35 59 (bm 41 0xfffffffff) HT_ (h := ?_)
         refine pz_ 36 60 (bm 41 0x1fffffffff) HT_ (h := ?_)
         refine pz_ 37 61 (bm 41 0x3fffffffff) HT_ (h := ?_)
         refine pz_ 38 62 (bm 41 0x7fffffffff) HT_ (h := ?_)
         refine pz_ 39 63 (bm 41 0xffffffffff) HT_ (h := ?_)
         refine pa_ 40 64 (bm 41 0x1ffffffffff) HT_ (h := ?_)
         refine done_ (done_of HT_.out (by kernel_rfl)) ?_
         try go_wp2
         go_meet
         case rel => exact ⟨_, (true), (by rfl), H', ⟨by have := HK1.out; omega⟩, ⟨HO305.out⟩, ⟨HO311.out⟩, ⟨BK314.out⟩, ⟨BK315.out⟩, ⟨HB.out⟩⟩
       ·
        replace c24 := Bool.eq_false_iff.mpr c24
        subst c24
        have H1 : (remontoirlaw18_right.j1 k1 l0 x3_1 true) = some r := by rw [if_neg (show ¬ (false = true) by decide)] at H; exact H
        clear H
        have H := H1
        clear H1
        have H' := Aside0.mk H
        clear H
        try go_wp2
        have n0_ : Aside0 (Kd.V (Kd.int .i64) 3 ((((((w12.setCell ⟨gb314, 0, none⟩ (.slice Ao13 t303.length co13)).setCell ⟨gb314, 1, none⟩ (.int .i64 t306)).setCell ⟨gb314, 2, none⟩ (.int .i64 t307)).setCell ⟨gb315, 0, none⟩ (.slice Ao17 t309.length co17)).setCell ⟨gb315, 1, none⟩ (.int .i64 t312)).setCell ⟨gb315, 2, none⟩ (.int .i64 t313)) w.heap.size (fun k_ => k_ ≠ gb314 ∧ k_ ≠ gb315) (.slice Ao13 t303.length co13) t303) := ⟨by exact Kd.V_mono (vf3_ (vf3_ (Kd.V_mono (Kd.V_mono HO305.out (fun k_ hk => (⟨hk, hk.1⟩ : _ ∧ k_ ≠ gb314))) (fun k_ hk => (⟨hk, hk.1.2⟩ : _ ∧ k_ ≠ gb315))) (fun _ hk => hk.1.2)) (fun _ hk => hk.2)) (fun _ hk => ⟨hk.1.1.1, hk.1.1.2⟩)⟩
        have n1_ : Aside0 (Kd.V (Kd.int .i64) 3 ((((((w12.setCell ⟨gb314, 0, none⟩ (.slice Ao13 t303.length co13)).setCell ⟨gb314, 1, none⟩ (.int .i64 t306)).setCell ⟨gb314, 2, none⟩ (.int .i64 t307)).setCell ⟨gb315, 0, none⟩ (.slice Ao17 t309.length co17)).setCell ⟨gb315, 1, none⟩ (.int .i64 t312)).setCell ⟨gb315, 2, none⟩ (.int .i64 t313)) w.heap.size (fun k_ => k_ ≠ gb314 ∧ k_ ≠ gb315) (.slice Ao17 t309.length co17) t309) := ⟨by exact Kd.V_mono (vf3_ (vf3_ (Kd.V_mono (Kd.V_mono HO311.out (fun k_ hk => (⟨hk, hk.1⟩ : _ ∧ k_ ≠ gb314))) (fun k_ hk => (⟨hk, hk.1.2⟩ : _ ∧ k_ ≠ gb315))) (fun _ hk => hk.1.2)) (fun _ hk => hk.2)) (fun _ hk => ⟨hk.1.1.1, hk.1.1.2⟩)⟩
        have n2_ : Aside0 (((((((w12.setCell ⟨gb314, 0, none⟩ (.slice Ao13 t303.length co13)).setCell ⟨gb314, 1, none⟩ (.int .i64 t306)).setCell ⟨gb314, 2, none⟩ (.int .i64 t307)).setCell ⟨gb315, 0, none⟩ (.slice Ao17 t309.length co17)).setCell ⟨gb315, 1, none⟩ (.int .i64 t312)).setCell ⟨gb315, 2, none⟩ (.int .i64 t313)).heap[gb314]? = some (.cells #[.slice Ao13 t303.length co13, .int .i64 t306, .int .i64 t307] 30 (0, 0))) := ⟨by refine blk_far ?_ NB314_315.out _; refine blk_far ?_ NB314_315.out _; refine blk_far ?_ NB314_315.out _; exact bp3_ BK314.out⟩
        have n3_ : Aside0 (((((((w12.setCell ⟨gb314, 0, none⟩ (.slice Ao13 t303.length co13)).setCell ⟨gb314, 1, none⟩ (.int .i64 t306)).setCell ⟨gb314, 2, none⟩ (.int .i64 t307)).setCell ⟨gb315, 0, none⟩ (.slice Ao17 t309.length co17)).setCell ⟨gb315, 1, none⟩ (.int .i64 t312)).setCell ⟨gb315, 2, none⟩ (.int .i64 t313)).heap[gb315]? = some (.cells #[.slice Ao17 t309.length co17, .int .i64 t312, .int .i64 t313] 30 (0, 0))) := ⟨by refine blk_put (cs := #[.slice Ao17 t309.length co17, .int .i64 t312, .int .i64 0]) ?_ 2 _ rfl; refine blk_put (cs := #[.slice Ao17 t309.length co17, .int .i64 0, .int .i64 0]) ?_ 1 _ rfl; refine blk_put (cs := #[.slice none 0 0, .int .i64 0, .int .i64 0]) ?_ 0 _ rfl; refine blk_far ?_ NB315_314.out _; refine blk_far ?_ NB315_314.out _; refine blk_far ?_ NB315_314.out _; exact BK315.out⟩
        have n4_ : Aside0 (Below w.heap.size w ((((((w12.setCell ⟨gb314, 0, none⟩ (.slice Ao13 t303.length co13)).setCell ⟨gb314, 1, none⟩ (.int .i64 t306)).setCell ⟨gb314, 2, none⟩ (.int .i64 t307)).setCell ⟨gb315, 0, none⟩ (.slice Ao17 t309.length co17)).setCell ⟨gb315, 1, none⟩ (.int .i64 t312)).setCell ⟨gb315, 2, none⟩ (.int .i64 t313))) := ⟨by repeat ((with_reducible first | exact HB.out | refine below_set ?_ GE314.out | refine below_set ?_ GE315.out))⟩
        (try clear HO305)
        (try clear HO311)
        (try clear BK314)
        (try clear BK315)
        (try clear HB)
        generalize ((((((w12.setCell ⟨gb314, 0, none⟩ (.slice Ao13 t303.length co13)).setCell ⟨gb314, 1, none⟩ (.int .i64 t306)).setCell ⟨gb314, 2, none⟩ (.int .i64 t307)).setCell ⟨gb315, 0, none⟩ (.slice Ao17 t309.length co17)).setCell ⟨gb315, 1, none⟩ (.int .i64 t312)).setCell ⟨gb315, 2, none⟩ (.int .i64 t313)) = w43 at n0_ n1_ n2_ n3_ n4_ ⊢
        have HO305 := n0_
        have HO311 := n1_
        have BK314 := n2_
        have BK315 := n3_
        have HB := n4_
        clear n0_ n1_ n2_ n3_ n4_
        have n0_ := Aside0.mk (Kd.V_drew HO305.out)
        have n1_ := Aside0.mk (Kd.V_drew HO311.out)
        have n2_ := Aside0.mk (blk_drew BK314.out)
        have n3_ := Aside0.mk (blk_drew BK315.out)
        have n4_ := Aside0.mk (below_drew1 HB.out)
        clear HO305 HO311 BK314 BK315 HB; have HO305 := n0_; have HO311 := n1_; have BK314 := n2_; have BK315 := n3_; have HB := n4_; clear n0_ n1_ n2_ n3_ n4_
        have p316 : 0 ≤ (x3_1 : Int) := of_decide_eq_true (by (with_reducible assumption))
        have q316 : x3_1 < (l0.length : Int) := of_decide_eq_true (by (with_reducible assumption))
        obtain ⟨ad316, A316_3, c316_3, A316_6, c316_6, e316, hx316_0, hx316_1, hx316_2, hx316_3, hx316_4, hx316_5, hx316_6, hx316_7, hx316_8, hl316_3, hi316_3, hl316_6, hi316_6⟩ := at_T76 HR0.out x3_1 p316 q316
        have hw316_8 := hx316_8
        have hw316_7 := hx316_7
        have hw316_6 := hx316_6
        have hw316_5 := hx316_5
        have hw316_4 := hx316_4
        have hw316_3 := hx316_3
        have hw316_2 := hx316_2
        have hw316_1 := hx316_1
        have hw316_0 := hx316_0
        obtain rfl : ad302 = ad316 := (by injection e316)
        replace hx316_0 := bc_ HB.out hx316_0
        replace hx316_1 := bc_ HB.out hx316_1
        replace hx316_2 := bc_ HB.out hx316_2
        replace hx316_3 := bc_ HB.out hx316_3
        replace hx316_4 := bc_ HB.out hx316_4
        replace hx316_5 := bc_ HB.out hx316_5
        replace hx316_6 := bc_ HB.out hx316_6
        replace hx316_7 := bc_ HB.out hx316_7
        replace hx316_8 := bc_ HB.out hx316_8
        have HR316_3 := Aside0.mk hi316_3
        have HC316_3 := Aside0.mk hl316_3
        clear hi316_3 hl316_3
        have HR316_6 := Aside0.mk hi316_6
        have HC316_6 := Aside0.mk hl316_6
        clear hi316_6 hl316_6
        replace p316 := eq_true p316
        replace q316 := eq_true q316
        refine start_ (n := 41) (S := fun w' => w'.cell? ⟨gb314, 0, none⟩ = some (.slice Ao13 t303.length co13) ∧ w'.cell? ⟨gb314, 1, none⟩ = some (.int .i64 t306) ∧ w'.cell? ⟨gb314, 2, none⟩ = some (.int .i64 t307) ∧ he9_ w' (ad302.add ((x3_1).toNat * 9)) (.int .i64 ((rd_T76 l0 x3_1).f0.f0)) (.int .i64 ((rd_T76 l0 x3_1).f0.f1)) (.int .i64 ((rd_T76 l0 x3_1).f0.f2)) (.slice A316_3 ((rd_T76 l0 x3_1).f1.f0).length c316_3) (.int .i64 ((rd_T76 l0 x3_1).f1.f1)) (.int .i64 ((rd_T76 l0 x3_1).f1.f2)) (.slice A316_6 ((rd_T76 l0 x3_1).f2.f0).length c316_6) (.int .i64 ((rd_T76 l0 x3_1).f2.f1)) (.int .i64 ((rd_T76 l0 x3_1).f2.f2))) (ds := []) #[false, false, false, false, false, false, false, false, false, false, false, false, false, false, false, false, false, false, false, false, false, false, false, false, false, false, false, false, false, false, false, false, false, false, false, false, false, false, false, false, false] (by kernel_rfl) rfl rfl ⟨(blk_cell BK314.out 0).trans rfl, (blk_cell BK314.out 1).trans rfl, (blk_cell BK314.out 2).trans rfl, bc_ HB.out hw316_0, bc_ HB.out hw316_1, bc_ HB.out hw316_2, bc_ HB.out hw316_3, bc_ HB.out hw316_4, bc_ HB.out hw316_5, bc_ HB.out hw316_6, bc_ HB.out hw316_7, bc_ HB.out hw316_8⟩ (fun hHeld => ?_); refine with_tabW remontoirlaw18_right.tab5 remontoirlaw18_right.bits5 (fun HT_ HW_ => ?_)
        generalize w43.drew = w44 at HO305 HO311 BK314 BK315 HB HR316_3 HR316_6 hx316_0 hx316_1 hx316_2 hx316_3 hx316_4 hx316_5 hx316_6 hx316_7 hx316_8 hHeld ⊢
        refine pa_ 0 24 (bm 41 0x1) HT_ (h := ?_)
        refine pa_ 1 25 (bm 41 0x3) HT_ (h := ?_)
        refine pa_ 2 26 (bm 41 0x7) HT_ (h := ?_)
        refine pa_ 3 27 (bm 41 0xf) HT_ (h := ?_)
        refine take_ (i := 4) (N := some 28) (v := ?_) (a' := ?_) (bm 41 0x1f) rfl rfl (take_ofW HT_.out HW_.out (by kernel_rfl)) (fun _ _ _ h => h) (Or.inl ⟨by rfl, ?_⟩) hHeld ?_ ?_
        rotate_left
        ·
         rintro w' ⟨s0, s1, s2, s3, s4, s5, s6, s7, s8, s9, s10, s11⟩
         go_simp
         with_reducible rfl
        rotate_left
        ·
         simp only [Act.put, sbA, sbB, sbC, i64_w, i32_w]
         rfl
        refine one_ (i := 5) (N := some 29) (bm 41 0x3f) rfl rfl (one_of HT_.out (by kernel_rfl)) (by decide) (fun K hK => ?_)
        refine goes_ Try.func45 (by kernel_rfl) rfl #[.agg #[.int .i64 ((rd_T76 l0 x3_1).f0.f0), .int .i64 ((rd_T76 l0 x3_1).f0.f1), .int .i64 ((rd_T76 l0 x3_1).f0.f2)]] (by rfl) rfl rfl (by (try simp only [List.map_toArray, List.map_cons, List.map_nil]); rfl) ?_
        with_reducible refine (remontoirref18_May.calls ((rd_T76 l0 x3_1).f0.f0) ((rd_T76 l0 x3_1).f0.f1) ((rd_T76 l0 x3_1).f0.f2) true _ A21.out).mono ?_
        rintro e w45 ⟨rfl, hb⟩
        refine ⟨_, rfl, ?_⟩
        replace HO305 := vb_ HO305 hb; replace HO311 := vb_ HO311 hb; replace BK314 := kb_ BK314 hb; replace BK315 := kb_ BK315 hb; replace HB := hb_ HB hb
        (try clear hb)
        (try clear hb2)
        (try clear hk)
        (try clear hi)
        refine hK.out _ _ ⟨(blk_cell BK314.out 0).trans rfl, (blk_cell BK314.out 1).trans rfl, (blk_cell BK314.out 2).trans rfl, bc_ HB.out hw316_0, bc_ HB.out hw316_1, bc_ HB.out hw316_2, bc_ HB.out hw316_3, bc_ HB.out hw316_4, bc_ HB.out hw316_5, bc_ HB.out hw316_6, bc_ HB.out hw316_7, bc_ HB.out hw316_8⟩ (fun hHeld => ?_)
        clear hK K
        refine nm_ 29 (h := ?_)
        refine pa_ 6 30 (bm 41 0x7f) HT_ (h := ?_)
        refine pa_ 7 31 (bm 41 0xff) HT_ (h := ?_)
        refine take_ (i := 8) (N := some 32) (v := ?_) (a' := ?_) (bm 41 0x1ff) rfl rfl (take_ofW HT_.out HW_.out (by kernel_rfl)) (fun _ _ _ h => h) (Or.inl ⟨by rfl, ?_⟩) hHeld ?_ ?_
        rotate_left
        ·
         rintro w' ⟨s0, s1, s2, s3, s4, s5, s6, s7, s8, s9, s10, s11⟩
         go_simp
         with_reducible rfl
        rotate_left
        ·
         simp only [Act.put, sbA, sbB, sbC, i64_w, i32_w]
         rfl
        refine one_ (i := 9) (N := some 33) (bm 41 0x3ff) rfl rfl (one_of HT_.out (by kernel_rfl)) (by decide) (fun K hK => ?_)
        refine goes_ Try.func14 (by kernel_rfl) rfl #[.agg #[.slice Ao13 t303.length co13, .int .i64 t306, .int .i64 t307]] (by rfl) rfl rfl (by (try simp only [List.map_toArray, List.map_cons, List.map_nil]); rfl) ?_
        with_reducible refine (remontoirref03_Right.calls _ _ t303 t306 t307 false _ ?side1 ?side2 A23.out).mono ?_
        (case side1 => repeat ((exact (Kd.V_reads' HO305.out).2.2)))
        (case side2 => exact (Kd.V_reads' HO305.out).2.1)
        rintro e w46 ⟨rfl, hb⟩
        refine ⟨_, rfl, ?_⟩
        replace HO305 := vb_ HO305 hb; replace HO311 := vb_ HO311 hb; replace BK314 := kb_ BK314 hb; replace BK315 := kb_ BK315 hb; replace HB := hb_ HB hb
        (try clear hb)
        (try clear hb2)
        (try clear hk)
        (try clear hi)
        refine hK.out _ _ ⟨(blk_cell BK314.out 0).trans rfl, (blk_cell BK314.out 1).trans rfl, (blk_cell BK314.out 2).trans rfl, bc_ HB.out hw316_0, bc_ HB.out hw316_1, bc_ HB.out hw316_2, bc_ HB.out hw316_3, bc_ HB.out hw316_4, bc_ HB.out hw316_5, bc_ HB.out hw316_6, bc_ HB.out hw316_7, bc_ HB.out hw316_8⟩ (fun hHeld => ?_)
        clear hK K
        refine nm_ 33 (h := ?_)
        refine pa_ 10 34 (bm 41 0x7ff) HT_ (h := ?_)
        refine pa_ 11 35 (bm 41 0xfff) HT_ (h := ?_)
        refine pa_ 12 36 (bm 41 0x1fff) HT_ (h := ?_)
        refine pz_ 13 37 (bm 41 0x3fff) HT_ (h := ?_)
        refine pz_ 14 38 (bm 41 0x7fff) HT_ (h := ?_)
        refine pz_ 15 39 (bm 41 0xffff) HT_ (h := ?_)
        refine pa_ 16 40 (bm 41 0x1ffff) HT_ (h := ?_)
        refine pa_ 17 41 (bm 41 0x3ffff) HT_ (h := ?_)
        refine pz_ 18 42 (bm 41 0x7ffff) HT_ (h := ?_)
        refine pz_ 19 43 (bm 41 0xfffff) HT_ (h := ?_)
        refine pz_ 20 44 (bm 41 0x1fffff) HT_ (h := ?_)
        refine pz_ 21 45 (bm 41 0x3fffff) HT_ (h := ?_)
        refine pz_ 22 46 (bm 41 0x7fffff) HT_ (h := ?_)
        refine pz_ 23 47 (bm 41 0xffffff) HT_ (h := ?_)
        refine pz_ 24 48 (bm 41 0x1ffffff) HT_ (h := ?_)
        refine pz_ 25 49 (bm 41 0x3ffffff) HT_ (h := ?_)
        refine pz_ 26 50 (bm 41 0x7ffffff) HT_ (h := ?_)
        refine pz_ 27 51 (bm 41 0xfffffff) HT_ (h := ?_)
        refine pa_ 28 52 (bm 41 0x1fffffff) HT_ (h := ?_)
        refine pa_ 29 53 (bm 41 0x3fffffff) HT_ (h := ?_)
        refine pz_ 30 54 (bm 41 0x7fffffff) HT_ (h := ?_)
        refine pz_ 31 55 (bm 41 0xffffffff) HT_ (h := ?_)
        refine pz_ 32 56 (bm 41 0x1ffffffff) HT_ (h := ?_)
        refine pz_ 33 57 (bm 41 0x3ffffffff) HT_ (h := ?_)
        refine pz_ 34 58 (bm 41 0x7ffffffff) HT_ (h := ?_)
        refine pz_ 35 59 (bm 41 0xfffffffff) HT_ (h := ?_)
        refine pz_ 36 60 (bm 41 0x1fffffffff) HT_ (h := ?_)
        refine pz_ 37 61 (bm 41 0x3fffffffff) HT_ (h := ?_)
        refine pz_ 38 62 (bm 41 0x7fffffffff) HT_ (h := ?_)
        refine pz_ 39 63 (bm 41 0xffffffffff) HT_ (h := ?_)
        refine pa_ 40 64 (bm 41 0x1ffffffffff) HT_ (h := ?_)
        refine done_ (done_of HT_.out (by kernel_rfl)) ?_
        try go_wp2
        go_meet
        case rel => exact ⟨_, (true), (by rfl), H', ⟨by have := HK1.out; omega⟩, ⟨HO305.out⟩, ⟨HO311.out⟩, ⟨BK314.out⟩, ⟨BK315.out⟩, ⟨HB.out⟩⟩
      ·
       replace c22 := Bool.eq_false_iff.mpr c22
       subst c22
       have H1 : (remontoirlaw18_right.j1 k1 l0 x3_1 true) = some r := by rw [if_neg (show ¬ (false = true) by decide)] at H; exact H
       clear H
       have H := H1
       clear H1
       have H' := Aside0.mk H
       clear H
       try go_wp2
       have n0_ : Aside0 (Kd.V (Kd.int .i64) 3 ((((((w12.setCell ⟨gb314, 0, none⟩ (.slice Ao13 t303.length co13)).setCell ⟨gb314, 1, none⟩ (.int .i64 t306)).setCell ⟨gb314, 2, none⟩ (.int .i64 t307)).setCell ⟨gb315, 0, none⟩ (.slice Ao17 t309.length co17)).setCell ⟨gb315, 1, none⟩ (.int .i64 t312)).setCell ⟨gb315, 2, none⟩ (.int .i64 t313)) w.heap.size (fun k_ => k_ ≠ gb314 ∧ k_ ≠ gb315) (.slice Ao13 t303.length co13) t303) := ⟨by exact Kd.V_mono (vf3_ (vf3_ (Kd.V_mono (Kd.V_mono HO305.out (fun k_ hk => (⟨hk, hk.1⟩ : _ ∧ k_ ≠ gb314))) (fun k_ hk => (⟨hk, hk.1.2⟩ : _ ∧ k_ ≠ gb315))) (fun _ hk => hk.1.2)) (fun _ hk => hk.2)) (fun _ hk => ⟨hk.1.1.1, hk.1.1.2⟩)⟩
       have n1_ : Aside0 (Kd.V (Kd.int .i64) 3 ((((((w12.setCell ⟨gb314, 0, none⟩ (.slice Ao13 t303.length co13)).setCell ⟨gb314, 1, none⟩ (.int .i64 t306)).setCell ⟨gb314, 2, none⟩ (.int .i64 t307)).setCell ⟨gb315, 0, none⟩ (.slice Ao17 t309.length co17)).setCell ⟨gb315, 1, none⟩ (.int .i64 t312)).setCell ⟨gb315, 2, none⟩ (.int .i64 t313)) w.heap.size (fun k_ => k_ ≠ gb314 ∧ k_ ≠ gb315) (.slice Ao17 t309.length co17) t309) := ⟨by exact Kd.V_mono (vf3_ (vf3_ (Kd.V_mono (Kd.V_mono HO311.out (fun k_ hk => (⟨hk, hk.1⟩ : _ ∧ k_ ≠ gb314))) (fun k_ hk => (⟨hk, hk.1.2⟩ : _ ∧ k_ ≠ gb315))) (fun _ hk => hk.1.2)) (fun _ hk => hk.2)) (fun _ hk => ⟨hk.1.1.1, hk.1.1.2⟩)⟩
       have n2_ : Aside0 (((((((w12.setCell ⟨gb314, 0, none⟩ (.slice Ao13 t303.length co13)).setCell ⟨gb314, 1, none⟩ (.int .i64 t306)).setCell ⟨gb314, 2, none⟩ (.int .i64 t307)).setCell ⟨gb315, 0, none⟩ (.slice Ao17 t309.length co17)).setCell ⟨gb315, 1, none⟩ (.int .i64 t312)).setCell ⟨gb315, 2, none⟩ (.int .i64 t313)).heap[gb314]? = some (.cells #[.slice Ao13 t303.length co13, .int .i64 t306, .int .i64 t307] 30 (0, 0))) := ⟨by refine blk_far ?_ NB314_315.out _; refine blk_far ?_ NB314_315.out _; refine blk_far ?_ NB314_315.out _; exact bp3_ BK314.out⟩
       have n3_ : Aside0 (((((((w12.setCell ⟨gb314, 0, none⟩ (.slice Ao13 t303.length co13)).setCell ⟨gb314, 1, none⟩ (.int .i64 t306)).setCell ⟨gb314, 2, none⟩ (.int .i64 t307)).setCell ⟨gb315, 0, none⟩ (.slice Ao17 t309.length co17)).setCell ⟨gb315, 1, none⟩ (.int .i64 t312)).setCell ⟨gb315, 2, none⟩ (.int .i64 t313)).heap[gb315]? = some (.cells #[.slice Ao17 t309.length co17, .int .i64 t312, .int .i64 t313] 30 (0, 0))) := ⟨by refine blk_put (cs := #[.slice Ao17 t309.length co17, .int .i64 t312, .int .i64 0]) ?_ 2 _ rfl; refine blk_put (cs := #[.slice Ao17 t309.length co17, .int .i64 0, .int .i64 0]) ?_ 1 _ rfl; refine blk_put (cs := #[.slice none 0 0, .int .i64 0, .int .i64 0]) ?_ 0 _ rfl; refine blk_far ?_ NB315_314.out _; refine blk_far ?_ NB315_314.out _; refine blk_far ?_ NB315_314.out _; exact BK315.out⟩
       have n4_ : Aside0 (Below w.heap.size w ((((((w12.setCell ⟨gb314, 0, none⟩ (.slice Ao13 t303.length co13)).setCell ⟨gb314, 1, none⟩ (.int .i64 t306)).setCell ⟨gb314, 2, none⟩ (.int .i64 t307)).setCell ⟨gb315, 0, none⟩ (.slice Ao17 t309.length co17)).setCell ⟨gb315, 1, none⟩ (.int .i64 t312)).setCell ⟨gb315, 2, none⟩ (.int .i64 t313))) := ⟨by repeat ((with_reducible first | exact HB.out | refine below_set ?_ GE314.out | refine below_set ?_ GE315.out))⟩
       (try clear HO305)
       (try clear HO311)
       (try clear BK314)
       (try clear BK315)
       (try clear HB)
       generalize ((((((w12.setCell ⟨gb314, 0, none⟩ (.slice Ao13 t303.length co13)).setCell ⟨gb314, 1, none⟩ (.int .i64 t306)).setCell ⟨gb314, 2, none⟩ (.int .i64 t307)).setCell ⟨gb315, 0, none⟩ (.slice Ao17 t309.length co17)).setCell ⟨gb315, 1, none⟩ (.int .i64 t312)).setCell ⟨gb315, 2, none⟩ (.int .i64 t313)) = w47 at n0_ n1_ n2_ n3_ n4_ ⊢
       have HO305 := n0_
       have HO311 := n1_
       have BK314 := n2_
       have BK315 := n3_
       have HB := n4_
       clear n0_ n1_ n2_ n3_ n4_
       have n0_ := Aside0.mk (Kd.V_drew HO305.out)
       have n1_ := Aside0.mk (Kd.V_drew HO311.out)
       have n2_ := Aside0.mk (blk_drew BK314.out)
       have n3_ := Aside0.mk (blk_drew BK315.out)
       have n4_ := Aside0.mk (below_drew1 HB.out)
       clear HO305 HO311 BK314 BK315 HB; have HO305 := n0_; have HO311 := n1_; have BK314 := n2_; have BK315 := n3_; have HB := n4_; clear n0_ n1_ n2_ n3_ n4_
       have p316 : 0 ≤ (x3_1 : Int) := of_decide_eq_true (by (with_reducible assumption))
       have q316 : x3_1 < (l0.length : Int) := of_decide_eq_true (by (with_reducible assumption))
       obtain ⟨ad316, A316_3, c316_3, A316_6, c316_6, e316, hx316_0, hx316_1, hx316_2, hx316_3, hx316_4, hx316_5, hx316_6, hx316_7, hx316_8, hl316_3, hi316_3, hl316_6, hi316_6⟩ := at_T76 HR0.out x3_1 p316 q316
       have hw316_8 := hx316_8
       have hw316_7 := hx316_7
       have hw316_6 := hx316_6
       have hw316_5 := hx316_5
       have hw316_4 := hx316_4
       have hw316_3 := hx316_3
       have hw316_2 := hx316_2
       have hw316_1 := hx316_1
       have hw316_0 := hx316_0
       obtain rfl : ad302 = ad316 := (by injection e316)
       replace hx316_0 := bc_ HB.out hx316_0
       replace hx316_1 := bc_ HB.out hx316_1
       replace hx316_2 := bc_ HB.out hx316_2
       replace hx316_3 := bc_ HB.out hx316_3
       replace hx316_4 := bc_ HB.out hx316_4
       replace hx316_5 := bc_ HB.out hx316_5
       replace hx316_6 := bc_ HB.out hx316_6
       replace hx316_7 := bc_ HB.out hx316_7
       replace hx316_8 := bc_ HB.out hx316_8
       have HR316_3 := Aside0.mk hi316_3
       have HC316_3 := Aside0.mk hl316_3
       clear hi316_3 hl316_3
       have HR316_6 := Aside0.mk hi316_6
       have HC316_6 := Aside0.mk hl316_6
       clear hi316_6 hl316_6
       replace p316 := eq_true p316
       replace q316 := eq_true q316
       refine start_ (n := 41) (S := fun w' => he9_ w' (ad302.add ((x3_1).toNat * 9)) (.int .i64 ((rd_T76 l0 x3_1).f0.f0)) (.int .i64 ((rd_T76 l0 x3_1).f0.f1)) (.int .i64 ((rd_T76 l0 x3_1).f0.f2)) (.slice A316_3 ((rd_T76 l0 x3_1).f1.f0).length c316_3) (.int .i64 ((rd_T76 l0 x3_1).f1.f1)) (.int .i64 ((rd_T76 l0 x3_1).f1.f2)) (.slice A316_6 ((rd_T76 l0 x3_1).f2.f0).length c316_6) (.int .i64 ((rd_T76 l0 x3_1).f2.f1)) (.int .i64 ((rd_T76 l0 x3_1).f2.f2))) (ds := []) #[false, false, false, false, false, false, false, false, false, false, false, false, false, false, false, false, false, false, false, false, false, false, false, false, false, false, false, false, false, false, false, false, false, false, false, false, false, false, false, false, false] (by kernel_rfl) rfl rfl ⟨bc_ HB.out hw316_0, bc_ HB.out hw316_1, bc_ HB.out hw316_2, bc_ HB.out hw316_3, bc_ HB.out hw316_4, bc_ HB.out hw316_5, bc_ HB.out hw316_6, bc_ HB.out hw316_7, bc_ HB.out hw316_8⟩ (fun hHeld => ?_); refine with_tabW remontoirlaw18_right.tab5 remontoirlaw18_right.bits5 (fun HT_ HW_ => ?_)
       generalize w47.drew = w48 at HO305 HO311 BK314 BK315 HB HR316_3 HR316_6 hx316_0 hx316_1 hx316_2 hx316_3 hx316_4 hx316_5 hx316_6 hx316_7 hx316_8 hHeld ⊢
       refine pa_ 0 24 (bm 41 0x1) HT_ (h := ?_)
       refine pa_ 1 25 (bm 41 0x3) HT_ (h := ?_)
       refine pa_ 2 26 (bm 41 0x7) HT_ (h := ?_)
       refine pa_ 3 27 (bm 41 0xf) HT_ (h := ?_)
       refine take_ (i := 4) (N := some 28) (v := ?_) (a' := ?_) (bm 41 0x1f) rfl rfl (take_ofW HT_.out HW_.out (by kernel_rfl)) (fun _ _ _ h => h) (Or.inl ⟨by rfl, ?_⟩) hHeld ?_ ?_
       rotate_left
       ·
        rintro w' ⟨s0, s1, s2, s3, s4, s5, s6, s7, s8⟩
        go_simp
        with_reducible rfl
       rotate_left
       ·
        simp only [Act.put, sbA, sbB, sbC, i64_w, i32_w]
        rfl
       refine one_ (i := 5) (N := some 29) (bm 41 0x3f) rfl rfl (one_of HT_.out (by kernel_rfl)) (by decide) (fun K hK => ?_)
       refine goes_ Try.func45 (by kernel_rfl) rfl #[.agg #[.int .i64 ((rd_T76 l0 x3_1).f0.f0), .int .i64 ((rd_T76 l0 x3_1).f0.f1), .int .i64 ((rd_T76 l0 x3_1).f0.f2)]] (by rfl) rfl rfl (by (try simp only [List.map_toArray, List.map_cons, List.map_nil]); rfl) ?_
       with_reducible refine (remontoirref18_May.calls ((rd_T76 l0 x3_1).f0.f0) ((rd_T76 l0 x3_1).f0.f1) ((rd_T76 l0 x3_1).f0.f2) false _ A21.out).mono ?_
       rintro e w49 ⟨rfl, hb⟩
       refine ⟨_, rfl, ?_⟩
       replace HO305 := vb_ HO305 hb; replace HO311 := vb_ HO311 hb; replace BK314 := kb_ BK314 hb; replace BK315 := kb_ BK315 hb; replace HB := hb_ HB hb
       (try clear hb)
       (try clear hb2)
       (try clear hk)
       (try clear hi)
       refine hK.out _ _ ⟨bc_ HB.out hw316_0, bc_ HB.out hw316_1, bc_ HB.out hw316_2, bc_ HB.out hw316_3, bc_ HB.out hw316_4, bc_ HB.out hw316_5, bc_ HB.out hw316_6, bc_ HB.out hw316_7, bc_ HB.out hw316_8⟩ (fun hHeld => ?_)
       clear hK K
       refine nm_ 29 (h := ?_)
       refine pa_ 6 30 (bm 41 0x7f) HT_ (h := ?_)
       refine pa_ 7 31 (bm 41 0xff) HT_ (h := ?_)
       refine pz_ 8 32 (bm 41 0x1ff) HT_ (h := ?_)
       refine pz_ 9 33 (bm 41 0x3ff) HT_ (h := ?_)
       refine pz_ 10 34 (bm 41 0x7ff) HT_ (h := ?_)
       refine pa_ 11 35 (bm 41 0xfff) HT_ (h := ?_)
       refine pa_ 12 36 (bm 41 0x1fff) HT_ (h := ?_)
       refine pz_ 13 37 (bm 41 0x3fff) HT_ (h := ?_)
       refine pz_ 14 38 (bm 41 0x7fff) HT_ (h := ?_)
       refine pz_ 15 39 (bm 41 0xffff) HT_ (h := ?_)
       refine pa_ 16 40 (bm 41 0x1ffff) HT_ (h := ?_)
       refine pa_ 17 41 (bm 41 0x3ffff) HT_ (h := ?_)
       refine pz_ 18 42 (bm 41 0x7ffff) HT_ (h := ?_)
       refine pz_ 19 43 (bm 41 0xfffff) HT_ (h := ?_)
       refine pz_ 20 44 (bm 41 0x1fffff) HT_ (h := ?_)
       refine pz_ 21 45 (bm 41 0x3fffff) HT_ (h := ?_)
       refine pz_ 22 46 (bm 41 0x7fffff) HT_ (h := ?_)
       refine pz_ 23 47 (bm 41 0xffffff) HT_ (h := ?_)
       refine pz_ 24 48 (bm 41 0x1ffffff) HT_ (h := ?_)
       refine pz_ 25 49 (bm 41 0x3ffffff) HT_ (h := ?_)
       refine pz_ 26 50 (bm 41 0x7ffffff) HT_ (h := ?_)
       refine pz_ 27 51 (bm 41 0xfffffff) HT_ (h := ?_)
       refine pa_ 28 52 (bm 41 0x1fffffff) HT_ (h := ?_)
       refine pa_ 29 53 (bm 41 0x3fffffff) HT_ (h := ?_)
       refine pz_ 30 54 (bm 41 0x7fffffff) HT_ (h := ?_)
       refine pz_ 31 55 (bm 41 0xffffffff) HT_ (h := ?_)
       refine pz_ 32 56 (bm 41 0x1ffffffff) HT_ (h := ?_)
       refine pz_ 33 57 (bm 41 0x3ffffffff) HT_ (h := ?_)
       refine pz_ 34 58 (bm 41 0x7ffffffff) HT_ (h := ?_)
       refine pz_ 35 59 (bm 41 0xfffffffff) HT_ (h := ?_)
       refine pz_ 36 60 (bm 41 0x1fffffffff) HT_ (h := ?_)
       refine pz_ 37 61 (bm 41 0x3fffffffff) HT_ (h := ?_)
       refine pz_ 38 62 (bm 41 0x7fffffffff) HT_ (h := ?_)
       refine pz_ 39 63 (bm 41 0xffffffffff) HT_ (h := ?_)
       refine pa_ 40 64 (bm 41 0x1ffffffffff) HT_ (h := ?_)
       refine done_ (done_of HT_.out (by kernel_rfl)) ?_
       try go_wp2
       go_meet
       case rel => exact ⟨_, (true), (by rfl), H', ⟨by have := HK1.out; omega⟩, ⟨HO305.out⟩, ⟨HO311.out⟩, ⟨BK314.out⟩, ⟨BK315.out⟩, ⟨HB.out⟩⟩
     case rest =>
      clear HC6
      try clear c1
      try clear c2
      try clear p2
      try clear c3
      try clear p3
      try clear q3
      try clear hx3
      try clear c4
      try clear c14
      try clear c22
      try clear c31
      try clear p31
      try clear q31
      try clear hx31
      try clear c45
      try clear hx316_0
      try clear hx316_1
      try clear hx316_2
      try clear hx316_3
      try clear hx316_4
      try clear hx316_5
      try clear hx316_6
      try clear hx316_7
      try clear hx316_8
      try clear p316
      try clear q316
      obtain ⟨kq, x64_5, rfl, HA, HJ5, HO_315000, HO_316000, BK314, BK315, HB⟩ := hcut
      cases kq with
      | zero => exact absurd HA.out (by simp [remontoirlaw18_right.j1])
      | succ kj5 =>
       have H := HA.out
       clear HA
       simp only [remontoirlaw18_right.j1] at H
       by_cases c50 : x64_5 = true
       ·
        subst c50
        have H1 : (some false) = some r := by rw [if_pos rfl] at H; exact H
        clear H
        have H := H1
        clear H1
        obtain rfl := Option.some.inj H
        go_wp2
        go_ret
        exact ⟨by rfl, by repeat ((with_reducible (exact HB.out)))⟩
       ·
        replace c50 := Bool.eq_false_iff.mpr c50
        subst c50
        have H1 : (remontoirlaw18_right.l0 kj5 l0 (wrap64 (x3_1 + 1))) = some r := by rw [if_neg (show ¬ (false = true) by decide)] at H; exact H
        clear H
        have H := H1
        clear H1
        have H' := Aside0.mk H
        clear H
        go_wp2
        go_roundg kj5
        case measure => have := HK1.out; have := HJ5.out; omega
        case rel => exact ⟨(wrap64 (x3_1 + 1)), (by rfl), H', ⟨by have := HK1.out; have := HJ5.out; omega⟩, ⟨HB.out⟩⟩
    ·
     rw [if_neg c3] at H
     exact absurd H (by simp)
   ·
    rw [if_neg c2] at H
    have c2b0 : decide (x3_1 < (l0.length : Int)) = false := decide_eq_false c2
    clear c2
    obtain rfl := Option.some.inj H
    go_wp2
    go_ret
    exact ⟨by rfl, by repeat ((with_reducible (exact HB.out)))⟩

end Go.Proofs.Yteddflcloeelhaa.FPort
