-- Written by the session (wip/tools) for this claim: functions of the program as Lean functions, and their contracts.
import Derived.Test.YteddflcloeelhaaZXShort
import Derived.Test.YteddflcloeelhaaZFDelivx0
import Derived.Test.YteddflcloeelhaaZFDelivx1
import Derived.Test.YteddflcloeelhaaZFDelivx6
import Derived.Test.YteddflcloeelhaaZFDelivx8
namespace Go.Proofs.Yteddflcloeelhaa.FDeliv
open Go.RowKit Go.Proofs.YteddflcloeelhaaW.PrintWords Go.Proofs.YteddflcloeelhaaW.PrintLast Go.Proofs.YteddflcloeelhaaW.PrintMore
attribute [local go_sem] max2_int min2_int max_two min_two max_three min_three max_four min_four   -- for this text's walks alone
set_option linter.unusedVariables false
set_option linter.unusedSimpArgs false

attribute [local go_sem high] eqA51
/-! ### remontoirlaw18_stays: function 34 -/
def remontoirlaw18_stays.l0 : Nat → List (S76) → List (S76) → Int → Option (Bool)
 | 0, _, _, _ => none
 | k + 1, x0, x1, x5 => if x5 < (x0.length : Int) then (if 0 ≤ x5 then (if x5 < (x1.length : Int) then (if (!(((rd_T76 x0 x5).f0.f0) == ((rd_T76 x1 x5).f0.f0)) || (!(((rd_T76 x0 x5).f0.f1) == ((rd_T76 x1 x5).f0.f1)) || (!(((rd_T76 x0 x5).f0.f2) == ((rd_T76 x1 x5).f0.f2))))) = true then (some false) else ((remontoirlaw03_As.f ((rd_T76 x0 x5).f1.f0) ((rd_T76 x0 x5).f1.f1) ((rd_T76 x0 x5).f1.f2)).bind fun bt298 => ((remontoirlaw03_As.f ((rd_T76 x1 x5).f1.f0) ((rd_T76 x1 x5).f1.f1) ((rd_T76 x1 x5).f1.f2)).bind fun bt304 => ((remontoirref03_Same.f k bt298.1 bt298.2.1 bt298.2.2 bt304.1 bt304.2.1 bt304.2.2).bind fun t309 => (if t309 = true then ((remontoirlaw03_As.f ((rd_T76 x0 x5).f2.f0) ((rd_T76 x0 x5).f2.f1) ((rd_T76 x0 x5).f2.f2)).bind fun bt311 => ((remontoirlaw03_As.f ((rd_T76 x1 x5).f2.f0) ((rd_T76 x1 x5).f2.f1) ((rd_T76 x1 x5).f2.f2)).bind fun bt317 => ((remontoirref03_Same.f k bt311.1 bt311.2.1 bt311.2.2 bt317.1 bt317.2.1 bt317.2.2).bind fun t322 => (if t322 = true then (remontoirlaw18_stays.l0 k x0 x1 (wrap64 (x5 + 1))) else (some false))))) else (some false)))))) else (none)) else (none)) else (some true)
def remontoirlaw18_stays.f (k : Nat) (l0 : List (S76)) (l1 : List (S76)) : Option (Bool) := if (l0.length : Int) = (l1.length : Int) then (remontoirlaw18_stays.l0 k l0 l1 0) else (some false)
theorem remontoirlaw18_stays.mono_l : ∀ k, (∀ y0 y1 y2, LeO (remontoirlaw18_stays.l0 k y0 y1 y2) (remontoirlaw18_stays.l0 (k + 1) y0 y1 y2))
 | 0 => fun _ _ _ r h => by simp [remontoirlaw18_stays.l0] at h
 | k + 1 => by
  have ih0 := remontoirlaw18_stays.mono_l k
  ·
   intro y0 y1 y2
   unfold remontoirlaw18_stays.l0
   repeat' first | (with_reducible exact ih0 _ _ _) | (with_reducible exact remontoirref03_Same.mono _ _ _ _ _ _ _) | (with_reducible exact LeO.refl _) | (with_reducible refine LeO.ite ?_ ?_) | (with_reducible refine LeO.bind ?_ (fun _ => ?_))
theorem remontoirlaw18_stays.mono : ∀ a0 a1 k, LeO (remontoirlaw18_stays.f k a0 a1) (remontoirlaw18_stays.f (k + 1) a0 a1) := by
 intro a0 a1 k
 have ih0 := remontoirlaw18_stays.mono_l k
 unfold remontoirlaw18_stays.f
 repeat' first | (with_reducible exact ih0 _ _ _) | (with_reducible exact LeO.refl _) | (with_reducible refine LeO.ite ?_ ?_)
def remontoirlaw18_stays.T6 : Bool × List (List Nat × List Nat) := (true, [([], []), ([], []), ([0, 1], [0, 1]), ([2], [2]), ([3], [3]), ([], []), ([], []), ([5, 6], [5, 6]), ([7], [7]), ([8], [8]), ([4, 9], [4, 9]), ([10], [10]), ([11], [11]), ([11], [11]), ([12, 13, 11], [11, 12, 13]), ([14, 11], [11, 14]), ([15, 11], [11, 15]), ([16, 11, 11], [11, 16]), ([11], [11]), ([11], [11]), ([18, 19, 11], [11, 18, 19]), ([20, 11], [11, 20]), ([21, 11], [11, 21]), ([22, 17, 11], [11, 22]), ([17, 23, 23, 11], [11, 17, 23]), ([24, 11], [11, 24]), ([11, 25], [11, 25]), ([26, 24], [26]), ([27], [27]), ([27], [27]), ([28, 29, 27], [27, 28, 29]), ([30, 27], [27, 30]), ([31, 27], [27, 31]), ([32, 27, 27], [27, 32]), ([27], [27]), ([27], [27]), ([34, 35, 27], [27, 34, 35]), ([36, 27], [27, 36]), ([37, 27], [27, 37]), ([38, 33, 27], [27, 38]), ([33, 39, 39, 27], [27, 33, 39]), ([40, 27], [27, 40]), ([27, 41], [27, 41])])
def remontoirlaw18_stays.B6 : List Nat := [0, 0, 3, 7, 15, 0, 0, 96, 224, 480, 1023, 2047, 4095, 4095, 16383, 32767, 65535, 131071, 4095, 4095, 790527, 1839103, 3936255, 8388607, 16777215, 33554431, 67108863, 134217727, 268435455, 268435455, 1073741823, 2147483647, 4294967295, 8589934591, 268435455, 268435455, 51808043007, 120527519743, 257966473215, 549755813887, 1099511627775, 2199023255551, 4398046511103]
theorem remontoirlaw18_stays.tab6 : rtab .any (opsOf Try.f34 6) = remontoirlaw18_stays.T6 := by kernel_rfl
theorem remontoirlaw18_stays.bits6 : waitsOk remontoirlaw18_stays.T6.2 remontoirlaw18_stays.B6 = true := by kernel_rfl
set_option maxHeartbeats 8000000 in
set_option maxRecDepth 100000 in
theorem remontoirlaw18_stays.calls (k : Nat) (A0 : Option Addr) (c0 : Nat) (l0 : List (S76)) (A1 : Option Addr) (c1 : Nat) (l1 : List (S76)) (r : Bool) (w : World) (hr0 : Kd.C k76 w A0 l0.length l0) (hc0 : l0.length ≤ c0) (hr1 : Kd.C k76 w A1 l1.length l1) (hc1 : l1.length ≤ c1) (h : remontoirlaw18_stays.f k l0 l1 = some r) :
  Calls Try.prog 34 #[.slice A0 l0.length c0, .slice A1 l1.length c1] w fun e w' => e = .returned (.bool r) ∧ Below w.heap.size w w' := by
 have hu51 := Try.underlying51
 have hu24 := Try.underlying24
 have HR0 := Aside0.mk hr0
 have HC0 := Aside0.mk hc0
 clear hr0 hc0
 have HR1 := Aside0.mk hr1
 have HC1 := Aside0.mk hc1
 clear hr1 hc1
 have HB := Aside0.mk (Below.refl w.heap.size w)
 have H : (if (l0.length : Int) = (l1.length : Int) then (remontoirlaw18_stays.l0 k l0 l1 0) else (some false)) = some r := h
 clear h
 by_cases c3 : (l0.length : Int) = (l1.length : Int)
 ·
  rw [if_pos c3] at H
  have c3b0 : ((l0.length : Int) == (l1.length : Int)) = true := beq_iff_eq.mpr c3
  have c3b1 : ((l0.length : Int) != (l1.length : Int)) = false := bne_eq_false_iff_eq.mpr c3
  have c3b2 : (l0.length == l1.length) = true := by (simp at c3 ⊢; omega)
  clear c3
  have H' := Aside0.mk H
  clear H
  go_enter Try.func34, Try.ntmps34
  go_wp2
  go_loopg [5] k (fun kq v5 w' => ∃ (x5_1 : Int), v5 = .int .i64 x5_1 ∧ Aside0 (remontoirlaw18_stays.l0 kq l0 l1 x5_1 = some r) ∧ Aside0 (kq ≤ k) ∧ Aside0 (Below w.heap.size w w'))
  case atStart => exact ⟨(0), (by rfl), H', ⟨Nat.le_refl _⟩, ⟨HB.out⟩⟩
  case round =>
   clear H'
   try clear c1
   try clear p2
   try clear c3
   try clear c3b0
   try clear c3b1
   try clear c3b2
   obtain ⟨x5_1, rfl, HA, HK1, HB⟩ := hrel
   cases gk with
   | zero => exact absurd HA.out (by simp [remontoirlaw18_stays.l0])
   | succ k1 =>
    have H := HA.out
    clear HA
    simp only [remontoirlaw18_stays.l0] at H
    by_cases c4 : x5_1 < (l0.length : Int)
    ·
     rw [if_pos c4] at H
     have c4b0 : decide (x5_1 < (l0.length : Int)) = true := decide_eq_true c4
     clear c4
     by_cases c5 : 0 ≤ x5_1
     ·
      rw [if_pos c5] at H
      have c5b0 : decide (0 ≤ x5_1) = true := decide_eq_true c5
      clear c5
      by_cases c6 : x5_1 < (l1.length : Int)
      ·
       rw [if_pos c6] at H
       have c6b0 : decide (x5_1 < (l1.length : Int)) = true := decide_eq_true c6
       clear c6
       by_cases c7 : (!(((rd_T76 l0 x5_1).f0.f0) == ((rd_T76 l1 x5_1).f0.f0)) || (!(((rd_T76 l0 x5_1).f0.f1) == ((rd_T76 l1 x5_1).f0.f1)) || (!(((rd_T76 l0 x5_1).f0.f2) == ((rd_T76 l1 x5_1).f0.f2))))) = true
       ·
        rw [if_pos c7] at H
        have c7b0 : (!(((rd_T76 l0 x5_1).f0.f0) == ((rd_T76 l1 x5_1).f0.f0)) || (!(((rd_T76 l0 x5_1).f0.f1) == ((rd_T76 l1 x5_1).f0.f1)) || (!(((rd_T76 l0 x5_1).f0.f2) == ((rd_T76 l1 x5_1).f0.f2))))) = true := c7
        clear c7
        obtain rfl := Option.some.inj H
        try go_wp2
        have n0_ := Aside0.mk (below_drew1 HB.out)
        clear HB; have HB := n0_; clear n0_
        have p295 : 0 ≤ (x5_1 : Int) := of_decide_eq_true (by (with_reducible assumption))
        have q295 : x5_1 < (l0.length : Int) := of_decide_eq_true (by (with_reducible assumption))
        obtain ⟨ad295, A295_3, c295_3, A295_6, c295_6, e295, hx295_0, hx295_1, hx295_2, hx295_3, hx295_4, hx295_5, hx295_6, hx295_7, hx295_8, hl295_3, hi295_3, hl295_6, hi295_6⟩ := at_T76 HR0.out x5_1 p295 q295
        have hw295_8 := hx295_8
        have hw295_7 := hx295_7
        have hw295_6 := hx295_6
        have hw295_5 := hx295_5
        have hw295_4 := hx295_4
        have hw295_3 := hx295_3
        have hw295_2 := hx295_2
        have hw295_1 := hx295_1
        have hw295_0 := hx295_0
        cases e295
        replace hx295_0 := bc_ HB.out hx295_0
        replace hx295_1 := bc_ HB.out hx295_1
        replace hx295_2 := bc_ HB.out hx295_2
        replace hx295_3 := bc_ HB.out hx295_3
        replace hx295_4 := bc_ HB.out hx295_4
        replace hx295_5 := bc_ HB.out hx295_5
        replace hx295_6 := bc_ HB.out hx295_6
        replace hx295_7 := bc_ HB.out hx295_7
        replace hx295_8 := bc_ HB.out hx295_8
        have HR295_3 := Aside0.mk hi295_3
        have HC295_3 := Aside0.mk hl295_3
        clear hi295_3 hl295_3
        have HR295_6 := Aside0.mk hi295_6
        have HC295_6 := Aside0.mk hl295_6
        clear hi295_6 hl295_6
        replace p295 := eq_true p295
        replace q295 := eq_true q295
        have p296 : 0 ≤ (x5_1 : Int) := of_decide_eq_true (by (with_reducible assumption))
        have q296 : x5_1 < (l1.length : Int) := of_decide_eq_true (by (with_reducible assumption))
        obtain ⟨ad296, A296_3, c296_3, A296_6, c296_6, e296, hx296_0, hx296_1, hx296_2, hx296_3, hx296_4, hx296_5, hx296_6, hx296_7, hx296_8, hl296_3, hi296_3, hl296_6, hi296_6⟩ := at_T76 HR1.out x5_1 p296 q296
        have hw296_8 := hx296_8
        have hw296_7 := hx296_7
        have hw296_6 := hx296_6
        have hw296_5 := hx296_5
        have hw296_4 := hx296_4
        have hw296_3 := hx296_3
        have hw296_2 := hx296_2
        have hw296_1 := hx296_1
        have hw296_0 := hx296_0
        cases e296
        replace hx296_0 := bc_ HB.out hx296_0
        replace hx296_1 := bc_ HB.out hx296_1
        replace hx296_2 := bc_ HB.out hx296_2
        replace hx296_3 := bc_ HB.out hx296_3
        replace hx296_4 := bc_ HB.out hx296_4
        replace hx296_5 := bc_ HB.out hx296_5
        replace hx296_6 := bc_ HB.out hx296_6
        replace hx296_7 := bc_ HB.out hx296_7
        replace hx296_8 := bc_ HB.out hx296_8
        have HR296_3 := Aside0.mk hi296_3
        have HC296_3 := Aside0.mk hl296_3
        clear hi296_3 hl296_3
        have HR296_6 := Aside0.mk hi296_6
        have HC296_6 := Aside0.mk hl296_6
        clear hi296_6 hl296_6
        replace p296 := eq_true p296
        replace q296 := eq_true q296
        refine start_ (n := 43) (S := fun w' => hc9_ w' (ad295.add ((x5_1).toNat * 9)) (.int .i64 ((rd_T76 l0 x5_1).f0.f0)) (.int .i64 ((rd_T76 l0 x5_1).f0.f1)) (.int .i64 ((rd_T76 l0 x5_1).f0.f2)) (.slice A295_3 ((rd_T76 l0 x5_1).f1.f0).length c295_3) (.int .i64 ((rd_T76 l0 x5_1).f1.f1)) (.int .i64 ((rd_T76 l0 x5_1).f1.f2)) (.slice A295_6 ((rd_T76 l0 x5_1).f2.f0).length c295_6) (.int .i64 ((rd_T76 l0 x5_1).f2.f1)) (.int .i64 ((rd_T76 l0 x5_1).f2.f2)) (he9_ w' (ad296.add ((x5_1).toNat * 9)) (.int .i64 ((rd_T76 l1 x5_1).f0.f0)) (.int .i64 ((rd_T76 l1 x5_1).f0.f1)) (.int .i64 ((rd_T76 l1 x5_1).f0.f2)) (.slice A296_3 ((rd_T76 l1 x5_1).f1.f0).length c296_3) (.int .i64 ((rd_T76 l1 x5_1).f1.f1)) (.int .i64 ((rd_T76 l1 x5_1).f1.f2)) (.slice A296_6 ((rd_T76 l1 x5_1).f2.f0).length c296_6) (.int .i64 ((rd_T76 l1 x5_1).f2.f1)) (.int .i64 ((rd_T76 l1 x5_1).f2.f2)))) (ds := []) #[false, false, false, false, false, false, false, false, false, false, false, false, false, false, false, false, false, false, false, false, false, false, false, false, false, false, false, false, false, false, false, false, false, false, false, false, false, false, false, false, false, false, false] (by kernel_rfl) rfl rfl ⟨(bc_ HB.out hw295_0 :), (bc_ HB.out hw295_1 :), (bc_ HB.out hw295_2 :), (bc_ HB.out hw295_3 :), (bc_ HB.out hw295_4 :), (bc_ HB.out hw295_5 :), (bc_ HB.out hw295_6 :), (bc_ HB.out hw295_7 :), (bc_ HB.out hw295_8 :), (bc_ HB.out hw296_0 :), (bc_ HB.out hw296_1 :), (bc_ HB.out hw296_2 :), (bc_ HB.out hw296_3 :), (bc_ HB.out hw296_4 :), (bc_ HB.out hw296_5 :), (bc_ HB.out hw296_6 :), (bc_ HB.out hw296_7 :), (bc_ HB.out hw296_8 :)⟩ (fun hHeld => ?_); refine with_tabW remontoirlaw18_stays.tab6 remontoirlaw18_stays.bits6 (fun HT_ HW_ => ?_)
        generalize wr.drew = w8 at HB HR295_3 HR295_6 HR296_3 HR296_6 hx295_0 hx295_1 hx295_2 hx295_3 hx295_4 hx295_5 hx295_6 hx295_7 hx295_8 hx296_0 hx296_1 hx296_2 hx296_3 hx296_4 hx296_5 hx296_6 hx296_7 hx296_8 hHeld ⊢
        refine pa_ 0 17 (bm 43 0x1) HT_ (h := ?_)
        refine pa_ 1 18 (bm 43 0x3) HT_ (h := ?_)
        refine pa_ 2 19 (bm 43 0x7) HT_ (h := ?_)
        refine pa_ 3 20 (bm 43 0xf) HT_ (h := ?_)
        refine pa_ 5 22 (bm 43 0x2f) HT_ (h := ?_)
        refine pa_ 6 23 (bm 43 0x6f) HT_ (h := ?_)
        refine pa_ 7 24 (bm 43 0xef) HT_ (h := ?_)
        refine pa_ 8 25 (bm 43 0x1ef) HT_ (h := ?_)
        refine take_ (i := 4) (N := some 21) (v := ?_) (a' := ?_) (bm 43 0x1ff) rfl rfl (take_ofW HT_.out HW_.out (by kernel_rfl)) (fun _ _ _ h => h) (Or.inl ⟨by rfl, ?_⟩) hHeld ?_ ?_
        rotate_left
        ·
         rintro w' ⟨s0, s1, s2, s3, s4, s5, s6, s7, s8, s9, s10, s11, s12, s13, s14, s15, s16, s17⟩
         go_simp
         with_reducible rfl
        rotate_left
        ·
         simp only [Act.put, sbA, sbB, sbC, i64_w, i32_w]
         rfl
        refine take_ (i := 9) (N := some 26) (v := ?_) (a' := ?_) (bm 43 0x3ff) rfl rfl (take_ofW HT_.out HW_.out (by kernel_rfl)) (fun _ _ _ h => h) (Or.inl ⟨by rfl, ?_⟩) hHeld ?_ ?_
        rotate_left
        ·
         rintro w' ⟨s0, s1, s2, s3, s4, s5, s6, s7, s8, s9, s10, s11, s12, s13, s14, s15, s16, s17⟩
         go_simp
         with_reducible rfl
        rotate_left
        ·
         simp only [Act.put, sbA, sbB, sbC, i64_w, i32_w]
         rfl
        refine pa_ 10 27 (bm 43 0x7ff) HT_ (h := ?_)
        refine pa_ 11 28 (bm 43 0xfff) HT_ (h := ?_)
        refine pz_ 12 29 (bm 43 0x1fff) HT_ (h := ?_)
        refine pz_ 13 30 (bm 43 0x3fff) HT_ (h := ?_)
        refine pz_ 14 31 (bm 43 0x7fff) HT_ (h := ?_)
        refine pz_ 15 32 (bm 43 0xffff) HT_ (h := ?_)
        refine pz_ 16 33 (bm 43 0x1ffff) HT_ (h := ?_)
        refine pz_ 17 34 (bm 43 0x3ffff) HT_ (h := ?_)
        refine pz_ 18 35 (bm 43 0x7ffff) HT_ (h := ?_)
        refine pz_ 19 36 (bm 43 0xfffff) HT_ (h := ?_)
        refine pz_ 20 37 (bm 43 0x1fffff) HT_ (h := ?_)
        refine pz_ 21 38 (bm 43 0x3fffff) HT_ (h := ?_)
        refine pz_ 22 39 (bm 43 0x7fffff) HT_ (h := ?_)
        refine pz_ 23 40 (bm 43 0xffffff) HT_ (h := ?_)
        refine pz_ 24 41 (bm 43 0x1ffffff) HT_ (h := ?_)
        refine pz_ 25 42 (bm 43 0x3ffffff) HT_ (h := ?_)
        refine pa_ 26 43 (bm 43 0x7ffffff) HT_ (h := ?_)
        refine pa_ 27 44 (bm 43 0xfffffff) HT_ (h := ?_)
        refine pz_ 28 45 (bm 43 0x1fffffff) HT_ (h := ?_)
        refine pz_ 29 46 (bm 43 0x3fffffff) HT_ (h := ?_)
        refine pz_ 30 47 (bm 43 0x7fffffff) HT_ (h := ?_)
        refine pz_ 31 48 (bm 43 0xffffffff) HT_ (h := ?_)
        refine pz_ 32 49 (bm 43 0x1ffffffff) HT_ (h := ?_)
        refine pz_ 33 50 (bm 43 0x3ffffffff) HT_ (h := ?_)
        refine pz_ 34 51 (bm 43 0x7ffffffff) HT_ (h := ?_)
        refine pz_ 35 52 (bm 43 0xfffffffff) HT_ (h := ?_)
        refine pz_ 36 53 (bm 43 0x1fffffffff) HT_ (h := ?_)
        refine pz_ 37 54 (bm 43 0x3fffffffff) HT_ (h := ?_)
        refine pz_ 38 55 (bm 43 0x7fffffffff) HT_ (h := ?_)
        refine pz_ 39 56 (bm 43 0xffffffffff) HT_ (h := ?_)
        refine pz_ 40 57 (bm 43 0x1ffffffffff) HT_ (h := ?_)
        refine pz_ 41 58 (bm 43 0x3ffffffffff) HT_ (h := ?_)
        refine pa_ 42 59 (bm 43 0x7ffffffffff) HT_ (h := ?_)
        refine done_ (done_of HT_.out (by kernel_rfl)) ?_
        try go_wp2
        go_ret
        exact ⟨by rfl, by repeat ((with_reducible (exact HB.out)))⟩
       ·
        rw [if_neg c7] at H
        have c7b0 : (!(((rd_T76 l0 x5_1).f0.f0) == ((rd_T76 l1 x5_1).f0.f0)) || (!(((rd_T76 l0 x5_1).f0.f1) == ((rd_T76 l1 x5_1).f0.f1)) || (!(((rd_T76 l0 x5_1).f0.f2) == ((rd_T76 l1 x5_1).f0.f2))))) = false := by simpa using c7
        clear c7
        replace H := Option.bind_eq_some_iff.mp H
        obtain ⟨⟨t298, t301, t302⟩, A90, H⟩ := H
        replace H : ((remontoirlaw03_As.f ((rd_T76 l1 x5_1).f1.f0) ((rd_T76 l1 x5_1).f1.f1) ((rd_T76 l1 x5_1).f1.f2)).bind fun bt304 => ((remontoirref03_Same.f k1 t298 t301 t302 bt304.1 bt304.2.1 bt304.2.2).bind fun t309 => (if t309 = true then ((remontoirlaw03_As.f ((rd_T76 l0 x5_1).f2.f0) ((rd_T76 l0 x5_1).f2.f1) ((rd_T76 l0 x5_1).f2.f2)).bind fun bt311 => ((remontoirlaw03_As.f ((rd_T76 l1 x5_1).f2.f0) ((rd_T76 l1 x5_1).f2.f1) ((rd_T76 l1 x5_1).f2.f2)).bind fun bt317 => ((remontoirref03_Same.f k1 bt311.1 bt311.2.1 bt311.2.2 bt317.1 bt317.2.1 bt317.2.2).bind fun t322 => (if t322 = true then (remontoirlaw18_stays.l0 k1 l0 l1 (wrap64 (x5_1 + 1))) else (some false))))) else (some false)))) = some r := H
        have A9 := Aside0.mk A90
        clear A90
        replace H := Option.bind_eq_some_iff.mp H
        obtain ⟨⟨t304, t307, t308⟩, A100, H⟩ := H
        replace H : ((remontoirref03_Same.f k1 t298 t301 t302 t304 t307 t308).bind fun t309 => (if t309 = true then ((remontoirlaw03_As.f ((rd_T76 l0 x5_1).f2.f0) ((rd_T76 l0 x5_1).f2.f1) ((rd_T76 l0 x5_1).f2.f2)).bind fun bt311 => ((remontoirlaw03_As.f ((rd_T76 l1 x5_1).f2.f0) ((rd_T76 l1 x5_1).f2.f1) ((rd_T76 l1 x5_1).f2.f2)).bind fun bt317 => ((remontoirref03_Same.f k1 bt311.1 bt311.2.1 bt311.2.2 bt317.1 bt317.2.1 bt317.2.2).bind fun t322 => (if t322 = true then (remontoirlaw18_stays.l0 k1 l0 l1 (wrap64 (x5_1 + 1))) else (some false))))) else (some false))) = some r := H
        have A10 := Aside0.mk A100
        clear A100
        replace H := Option.bind_eq_some_iff.mp H
        obtain ⟨t309, A110, H⟩ := H
        replace H : (if t309 = true then ((remontoirlaw03_As.f ((rd_T76 l0 x5_1).f2.f0) ((rd_T76 l0 x5_1).f2.f1) ((rd_T76 l0 x5_1).f2.f2)).bind fun bt311 => ((remontoirlaw03_As.f ((rd_T76 l1 x5_1).f2.f0) ((rd_T76 l1 x5_1).f2.f1) ((rd_T76 l1 x5_1).f2.f2)).bind fun bt317 => ((remontoirref03_Same.f k1 bt311.1 bt311.2.1 bt311.2.2 bt317.1 bt317.2.1 bt317.2.2).bind fun t322 => (if t322 = true then (remontoirlaw18_stays.l0 k1 l0 l1 (wrap64 (x5_1 + 1))) else (some false))))) else (some false)) = some r := H
        have A11 := Aside0.mk A110
        clear A110
        by_cases c12 : t309 = true
        ·
         subst c12
         have H1 : ((remontoirlaw03_As.f ((rd_T76 l0 x5_1).f2.f0) ((rd_T76 l0 x5_1).f2.f1) ((rd_T76 l0 x5_1).f2.f2)).bind fun bt311 => ((remontoirlaw03_As.f ((rd_T76 l1 x5_1).f2.f0) ((rd_T76 l1 x5_1).f2.f1) ((rd_T76 l1 x5_1).f2.f2)).bind fun bt317 => ((remontoirref03_Same.f k1 bt311.1 bt311.2.1 bt311.2.2 bt317.1 bt317.2.1 bt317.2.2).bind fun t322 => (if t322 = true then (remontoirlaw18_stays.l0 k1 l0 l1 (wrap64 (x5_1 + 1))) else (some false))))) = some r := by rw [if_pos rfl] at H; exact H
         clear H
         have H := H1
         clear H1
         replace H := Option.bind_eq_some_iff.mp H
         obtain ⟨⟨t311, t314, t315⟩, A130, H⟩ := H
         replace H : ((remontoirlaw03_As.f ((rd_T76 l1 x5_1).f2.f0) ((rd_T76 l1 x5_1).f2.f1) ((rd_T76 l1 x5_1).f2.f2)).bind fun bt317 => ((remontoirref03_Same.f k1 t311 t314 t315 bt317.1 bt317.2.1 bt317.2.2).bind fun t322 => (if t322 = true then (remontoirlaw18_stays.l0 k1 l0 l1 (wrap64 (x5_1 + 1))) else (some false)))) = some r := H
         have A13 := Aside0.mk A130
         clear A130
         replace H := Option.bind_eq_some_iff.mp H
         obtain ⟨⟨t317, t320, t321⟩, A140, H⟩ := H
         replace H : ((remontoirref03_Same.f k1 t311 t314 t315 t317 t320 t321).bind fun t322 => (if t322 = true then (remontoirlaw18_stays.l0 k1 l0 l1 (wrap64 (x5_1 + 1))) else (some false))) = some r := H
         have A14 := Aside0.mk A140
         clear A140
         replace H := Option.bind_eq_some_iff.mp H
         obtain ⟨t322, A150, H⟩ := H
         replace H : (if t322 = true then (remontoirlaw18_stays.l0 k1 l0 l1 (wrap64 (x5_1 + 1))) else (some false)) = some r := H
         have A15 := Aside0.mk A150
         clear A150
         by_cases c16 : t322 = true
         ·
          subst c16
          have H1 : (remontoirlaw18_stays.l0 k1 l0 l1 (wrap64 (x5_1 + 1))) = some r := by rw [if_pos rfl] at H; exact H
          clear H
          have H := H1
          clear H1
          have H' := Aside0.mk H
          clear H
          try go_wp2
          have n0_ := Aside0.mk (below_drew1 HB.out)
          clear HB; have HB := n0_; clear n0_
          have p295 : 0 ≤ (x5_1 : Int) := of_decide_eq_true (by (with_reducible assumption))
          have q295 : x5_1 < (l0.length : Int) := of_decide_eq_true (by (with_reducible assumption))
          obtain ⟨ad295, A295_3, c295_3, A295_6, c295_6, e295, hx295_0, hx295_1, hx295_2, hx295_3, hx295_4, hx295_5, hx295_6, hx295_7, hx295_8, hl295_3, hi295_3, hl295_6, hi295_6⟩ := at_T76 HR0.out x5_1 p295 q295
          have hw295_8 := hx295_8
          have hw295_7 := hx295_7
          have hw295_6 := hx295_6
          have hw295_5 := hx295_5
          have hw295_4 := hx295_4
          have hw295_3 := hx295_3
          have hw295_2 := hx295_2
          have hw295_1 := hx295_1
          have hw295_0 := hx295_0
          cases e295
          replace hx295_0 := bc_ HB.out hx295_0
          replace hx295_1 := bc_ HB.out hx295_1
          replace hx295_2 := bc_ HB.out hx295_2
          replace hx295_3 := bc_ HB.out hx295_3
          replace hx295_4 := bc_ HB.out hx295_4
          replace hx295_5 := bc_ HB.out hx295_5
          replace hx295_6 := bc_ HB.out hx295_6
          replace hx295_7 := bc_ HB.out hx295_7
          replace hx295_8 := bc_ HB.out hx295_8
          have HR295_3 := Aside0.mk hi295_3
          have HC295_3 := Aside0.mk hl295_3
          clear hi295_3 hl295_3
          have HR295_6 := Aside0.mk hi295_6
          have HC295_6 := Aside0.mk hl295_6
          clear hi295_6 hl295_6
          replace p295 := eq_true p295
          replace q295 := eq_true q295
          have p296 : 0 ≤ (x5_1 : Int) := of_decide_eq_true (by (with_reducible assumption))
          have q296 : x5_1 < (l1.length : Int) := of_decide_eq_true (by (with_reducible assumption))
          obtain ⟨ad296, A296_3, c296_3, A296_6, c296_6, e296, hx296_0, hx296_1, hx296_2, hx296_3, hx296_4, hx296_5, hx296_6, hx296_7, hx296_8, hl296_3, hi296_3, hl296_6, hi296_6⟩ := at_T76 HR1.out x5_1 p296 q296
          have hw296_8 := hx296_8
          have hw296_7 := hx296_7
          have hw296_6 := hx296_6
          have hw296_5 := hx296_5
          have hw296_4 := hx296_4
          have hw296_3 := hx296_3
          have hw296_2 := hx296_2
          have hw296_1 := hx296_1
          have hw296_0 := hx296_0
          cases e296
          replace hx296_0 := bc_ HB.out hx296_0
          replace hx296_1 := bc_ HB.out hx296_1
          replace hx296_2 := bc_ HB.out hx296_2
          replace hx296_3 := bc_ HB.out hx296_3
          replace hx296_4 := bc_ HB.out hx296_4
          replace hx296_5 := bc_ HB.out hx296_5
          replace hx296_6 := bc_ HB.out hx296_6
          replace hx296_7 := bc_ HB.out hx296_7
          replace hx296_8 := bc_ HB.out hx296_8
          have HR296_3 := Aside0.mk hi296_3
          have HC296_3 := Aside0.mk hl296_3
          clear hi296_3 hl296_3
          have HR296_6 := Aside0.mk hi296_6
          have HC296_6 := Aside0.mk hl296_6
          clear hi296_6 hl296_6
          replace p296 := eq_true p296
          replace q296 := eq_true q296
          have p297 : 0 ≤ (x5_1 : Int) := of_decide_eq_true (by (with_reducible assumption))
          have q297 : x5_1 < (l0.length : Int) := of_decide_eq_true (by (with_reducible assumption))
          obtain ⟨ad297, A297_3, c297_3, A297_6, c297_6, e297, hx297_0, hx297_1, hx297_2, hx297_3, hx297_4, hx297_5, hx297_6, hx297_7, hx297_8, hl297_3, hi297_3, hl297_6, hi297_6⟩ := at_T76 HR0.out x5_1 p297 q297
          have hw297_8 := hx297_8
          have hw297_7 := hx297_7
          have hw297_6 := hx297_6
          have hw297_5 := hx297_5
          have hw297_4 := hx297_4
          have hw297_3 := hx297_3
          have hw297_2 := hx297_2
          have hw297_1 := hx297_1
          have hw297_0 := hx297_0
          obtain rfl : ad295 = ad297 := (by injection e297)
          replace hx297_0 := bc_ HB.out hx297_0
          replace hx297_1 := bc_ HB.out hx297_1
          replace hx297_2 := bc_ HB.out hx297_2
          replace hx297_3 := bc_ HB.out hx297_3
          replace hx297_4 := bc_ HB.out hx297_4
          replace hx297_5 := bc_ HB.out hx297_5
          replace hx297_6 := bc_ HB.out hx297_6
          replace hx297_7 := bc_ HB.out hx297_7
          replace hx297_8 := bc_ HB.out hx297_8
          have HR297_3 := Aside0.mk hi297_3
          have HC297_3 := Aside0.mk hl297_3
          clear hi297_3 hl297_3
          have HR297_6 := Aside0.mk hi297_6
          have HC297_6 := Aside0.mk hl297_6
          clear hi297_6 hl297_6
          replace p297 := eq_true p297
          replace q297 := eq_true q297
          have ea_ := Option.some.inj (hx295_3.symm.trans hx297_3)
          injection ea_ with ea_ en_ ec_
          subst ea_
          subst ec_
          clear en_
          have ea_ := Option.some.inj (hx295_6.symm.trans hx297_6)
          injection ea_ with ea_ en_ ec_
          subst ea_
          subst ec_
          clear en_
          have p303 : 0 ≤ (x5_1 : Int) := of_decide_eq_true (by (with_reducible assumption))
          have q303 : x5_1 < (l1.length : Int) := of_decide_eq_true (by (with_reducible assumption))
          obtain ⟨ad303, A303_3, c303_3, A303_6, c303_6, e303, hx303_0, hx303_1, hx303_2, hx303_3, hx303_4, hx303_5, hx303_6, hx303_7, hx303_8, hl303_3, hi303_3, hl303_6, hi303_6⟩ := at_T76 HR1.out x5_1 p303 q303
          have hw303_8 := hx303_8
          have hw303_7 := hx303_7
          have hw303_6 := hx303_6
          have hw303_5 := hx303_5
          have hw303_4 := hx303_4
          have hw303_3 := hx303_3
          have hw303_2 := hx303_2
          have hw303_1 := hx303_1
          have hw303_0 := hx303_0
          obtain rfl : ad296 = ad303 := (by injection e303)
          replace hx303_0 := bc_ HB.out hx303_0
          replace hx303_1 := bc_ HB.out hx303_1
          replace hx303_2 := bc_ HB.out hx303_2
          replace hx303_3 := bc_ HB.out hx303_3
          replace hx303_4 := bc_ HB.out hx303_4
          replace hx303_5 := bc_ HB.out hx303_5
          replace hx303_6 := bc_ HB.out hx303_6
          replace hx303_7 := bc_ HB.out hx303_7
          replace hx303_8 := bc_ HB.out hx303_8
          have HR303_3 := Aside0.mk hi303_3
          have HC303_3 := Aside0.mk hl303_3
          clear hi303_3 hl303_3
          have HR303_6 := Aside0.mk hi303_6
          have HC303_6 := Aside0.mk hl303_6
          clear hi303_6 hl303_6
          replace p303 := eq_true p303
          replace q303 := eq_true q303
          have ea_ := Option.some.inj (hx296_3.symm.trans hx303_3)
          injection ea_ with ea_ en_ ec_
          subst ea_
          subst ec_
          clear en_
          have ea_ := Option.some.inj (hx296_6.symm.trans hx303_6)
          injection ea_ with ea_ en_ ec_
          subst ea_
          subst ec_
          clear en_
          have p310 : 0 ≤ (x5_1 : Int) := of_decide_eq_true (by (with_reducible assumption))
          have q310 : x5_1 < (l0.length : Int) := of_decide_eq_true (by (with_reducible assumption))
          obtain ⟨ad310, A310_3, c310_3, A310_6, c310_6, e310, hx310_0, hx310_1, hx310_2, hx310_3, hx310_4, hx310_5, hx310_6, hx310_7, hx310_8, hl310_3, hi310_3, hl310_6, hi310_6⟩ := at_T76 HR0.out x5_1 p310 q310
          have hw310_8 := hx310_8
          have hw310_7 := hx310_7
          have hw310_6 := hx310_6
          have hw310_5 := hx310_5
          have hw310_4 := hx310_4
          have hw310_3 := hx310_3
          have hw310_2 := hx310_2
          have hw310_1 := hx310_1
          have hw310_0 := hx310_0
          obtain rfl : ad295 = ad310 := (by injection e310)
          replace hx310_0 := bc_ HB.out hx310_0
          replace hx310_1 := bc_ HB.out hx310_1
          replace hx310_2 := bc_ HB.out hx310_2
          replace hx310_3 := bc_ HB.out hx310_3
          replace hx310_4 := bc_ HB.out hx310_4
          replace hx310_5 := bc_ HB.out hx310_5
          replace hx310_6 := bc_ HB.out hx310_6
          replace hx310_7 := bc_ HB.out hx310_7
          replace hx310_8 := bc_ HB.out hx310_8
          have HR310_3 := Aside0.mk hi310_3
          have HC310_3 := Aside0.mk hl310_3
          clear hi310_3 hl310_3
          have HR310_6 := Aside0.mk hi310_6
          have HC310_6 := Aside0.mk hl310_6
          clear hi310_6 hl310_6
          replace p310 := eq_true p310
          replace q310 := eq_true q310
          have ea_ := Option.some.inj (hx295_3.symm.trans hx310_3)
          injection ea_ with ea_ en_ ec_
          subst ea_
          subst ec_
          clear en_
          have ea_ := Option.some.inj (hx295_6.symm.trans hx310_6)
          injection ea_ with ea_ en_ ec_
          subst ea_
          subst ec_
          clear en_
          have p316 : 0 ≤ (x5_1 : Int) := of_decide_eq_true (by (with_reducible assumption))
          have q316 : x5_1 < (l1.length : Int) := of_decide_eq_true (by (with_reducible assumption))
          obtain ⟨ad316, A316_3, c316_3, A316_6, c316_6, e316, hx316_0, hx316_1, hx316_2, hx316_3, hx316_4, hx316_5, hx316_6, hx316_7, hx316_8, hl316_3, hi316_3, hl316_6, hi316_6⟩ := at_T76 HR1.out x5_1 p316 q316
          have hw316_8 := hx316_8
          have hw316_7 := hx316_7
          have hw316_6 := hx316_6
          have hw316_5 := hx316_5
          have hw316_4 := hx316_4
          have hw316_3 := hx316_3
          have hw316_2 := hx316_2
          have hw316_1 := hx316_1
          have hw316_0 := hx316_0
          obtain rfl : ad296 = ad316 := (by injection e316)
          replace hx316_0 := bc_ HB.out hx316_0
          replace hx316_1 := bc_ HB.out hx316_1
          replace hx316_2 := bc_ HB.out hx316_2
          replace hx316_3 := bc_ HB.out hx316_3
          replace hx316_4 := bc_ HB.out hx316_4
          replace hx316_5 := bc_ HB.out hx316_5
          replace hx316_6 := bc_ HB.out hx316_6
          replace hx316_7 := bc_ HB.out hx316_7
          replace hx316_8 := bc_ HB.out hx316_8
          have HR316_3 := Aside0.mk hi316_3
          have HC316_3 := Aside0.mk hl316_3
          clear hi316_3 hl316_3
          have HR316_6 := Aside0.mk hi316_6
          have HC316_6 := Aside0.mk hl316_6
          clear hi316_6 hl316_6
          replace p316 := eq_true p316
          replace q316 := eq_true q316
          have ea_ := Option.some.inj (hx296_3.symm.trans hx316_3)
          injection ea_ with ea_ en_ ec_
          subst ea_
          subst ec_
          clear en_
          have ea_ := Option.some.inj (hx296_6.symm.trans hx316_6)
          injection ea_ with ea_ en_ ec_
          subst ea_
          subst ec_
          clear en_
          refine start_ (n := 43) (S := fun w' => hc9_ w' (ad295.add ((x5_1).toNat * 9)) (.int .i64 ((rd_T76 l0 x5_1).f0.f0)) (.int .i64 ((rd_T76 l0 x5_1).f0.f1)) (.int .i64 ((rd_T76 l0 x5_1).f0.f2)) (.slice A295_3 ((rd_T76 l0 x5_1).f1.f0).length c295_3) (.int .i64 ((rd_T76 l0 x5_1).f1.f1)) (.int .i64 ((rd_T76 l0 x5_1).f1.f2)) (.slice A295_6 ((rd_T76 l0 x5_1).f2.f0).length c295_6) (.int .i64 ((rd_T76 l0 x5_1).f2.f1)) (.int .i64 ((rd_T76 l0 x5_1).f2.f2)) (hc9_ w' (ad296.add ((x5_1).toNat * 9)) (.int .i64 ((rd_T76 l1 x5_1).f0.f0)) (.int .i64 ((rd_T76 l1 x5_1).f0.f1)) (.int .i64 ((rd_T76 l1 x5_1).f0.f2)) (.slice A296_3 ((rd_T76 l1 x5_1).f1.f0).length c296_3) (.int .i64 ((rd_T76 l1 x5_1).f1.f1)) (.int .i64 ((rd_T76 l1 x5_1).f1.f2)) (.slice A296_6 ((rd_T76 l1 x5_1).f2.f0).length c296_6) (.int .i64 ((rd_T76 l1 x5_1).f2.f1)) (.int .i64 ((rd_T76 l1 x5_1).f2.f2)) (hc9_ w' (ad295.add ((x5_1).toNat * 9)) (.int .i64 ((rd_T76 l0 x5_1).f0.f0)) (.int .i64 ((rd_T76 l0 x5_1).f0.f1)) (.int .i64 ((rd_T76 l0 x5_1).f0.f2)) (.slice A295_3 ((rd_T76 l0 x5_1).f1.f0).length c295_3) (.int .i64 ((rd_T76 l0 x5_1).f1.f1)) (.int .i64 ((rd_T76 l0 x5_1).f1.f2)) (.slice A295_6 ((rd_T76 l0 x5_1).f2.f0).length c295_6) (.int .i64 ((rd_T76 l0 x5_1).f2.f1)) (.int .i64 ((rd_T76 l0 x5_1).f2.f2)) (hc9_ w' (ad296.add ((x5_1).toNat * 9)) (.int .i64 ((rd_T76 l1 x5_1).f0.f0)) (.int .i64 ((rd_T76 l1 x5_1).f0.f1)) (.int .i64 ((rd_T76 l1 x5_1).f0.f2)) (.slice A296_3 ((rd_T76 l1 x5_1).f1.f0).length c296_3) (.int .i64 ((rd_T76 l1 x5_1).f1.f1)) (.int .i64 ((rd_T76 l1 x5_1).f1.f2)) (.slice A296_6 ((rd_T76 l1 x5_1).f2.f0).length c296_6) (.int .i64 ((rd_T76 l1 x5_1).f2.f1)) (.int .i64 ((rd_T76 l1 x5_1).f2.f2)) (hc9_ w' (ad295.add ((x5_1).toNat * 9)) (.int .i64 ((rd_T76 l0 x5_1).f0.f0)) (.int .i64 ((rd_T76 l0 x5_1).f0.f1)) (.int .i64 ((rd_T76 l0 x5_1).f0.f2)) (.slice A295_3 ((rd_T76 l0 x5_1).f1.f0).length c295_3) (.int .i64 ((rd_T76 l0 x5_1).f1.f1)) (.int .i64 ((rd_T76 l0 x5_1).f1.f2)) (.slice A295_6 ((rd_T76 l0 x5_1).f2.f0).length c295_6) (.int .i64 ((rd_T76 l0 x5_1).f2.f1)) (.int .i64 ((rd_T76 l0 x5_1).f2.f2)) (he9_ w' (ad296.add ((x5_1).toNat * 9)) (.int .i64 ((rd_T76 l1 x5_1).f0.f0)) (.int .i64 ((rd_T76 l1 x5_1).f0.f1)) (.int .i64 ((rd_T76 l1 x5_1).f0.f2)) (.slice A296_3 ((rd_T76 l1 x5_1).f1.f0).length c296_3) (.int .i64 ((rd_T76 l1 x5_1).f1.f1)) (.int .i64 ((rd_T76 l1 x5_1).f1.f2)) (.slice A296_6 ((rd_T76 l1 x5_1).f2.f0).length c296_6) (.int .i64 ((rd_T76 l1 x5_1).f2.f1)) (.int .i64 ((rd_T76 l1 x5_1).f2.f2)))))))) (ds := []) #[false, false, false, false, false, false, false, false, false, false, false, false, false, false, false, false, false, false, false, false, false, false, false, false, false, false, false, false, false, false, false, false, false, false, false, false, false, false, false, false, false, false, false] (by kernel_rfl) rfl rfl ⟨(bc_ HB.out hw295_0 :), (bc_ HB.out hw295_1 :), (bc_ HB.out hw295_2 :), (bc_ HB.out hw295_3 :), (bc_ HB.out hw295_4 :), (bc_ HB.out hw295_5 :), (bc_ HB.out hw295_6 :), (bc_ HB.out hw295_7 :), (bc_ HB.out hw295_8 :), (bc_ HB.out hw296_0 :), (bc_ HB.out hw296_1 :), (bc_ HB.out hw296_2 :), (bc_ HB.out hw296_3 :), (bc_ HB.out hw296_4 :), (bc_ HB.out hw296_5 :), (bc_ HB.out hw296_6 :), (bc_ HB.out hw296_7 :), (bc_ HB.out hw296_8 :), (bc_ HB.out hw297_0 :), (bc_ HB.out hw297_1 :), (bc_ HB.out hw297_2 :), (bc_ HB.out hw297_3 :), (bc_ HB.out hw297_4 :), (bc_ HB.out hw297_5 :), (bc_ HB.out hw297_6 :), (bc_ HB.out hw297_7 :), (bc_ HB.out hw297_8 :), (bc_ HB.out hw303_0 :), (bc_ HB.out hw303_1 :), (bc_ HB.out hw303_2 :), (bc_ HB.out hw303_3 :), (bc_ HB.out hw303_4 :), (bc_ HB.out hw303_5 :), (bc_ HB.out hw303_6 :), (bc_ HB.out hw303_7 :), (bc_ HB.out hw303_8 :), (bc_ HB.out hw310_0 :), (bc_ HB.out hw310_1 :), (bc_ HB.out hw310_2 :), (bc_ HB.out hw310_3 :), (bc_ HB.out hw310_4 :), (bc_ HB.out hw310_5 :), (bc_ HB.out hw310_6 :), (bc_ HB.out hw310_7 :), (bc_ HB.out hw310_8 :), (bc_ HB.out hw316_0 :), (bc_ HB.out hw316_1 :), (bc_ HB.out hw316_2 :), (bc_ HB.out hw316_3 :), (bc_ HB.out hw316_4 :), (bc_ HB.out hw316_5 :), (bc_ HB.out hw316_6 :), (bc_ HB.out hw316_7 :), (bc_ HB.out hw316_8 :)⟩ (fun hHeld => ?_); refine with_tabW remontoirlaw18_stays.tab6 remontoirlaw18_stays.bits6 (fun HT_ HW_ => ?_)
          generalize wr.drew = w17 at HB HR295_3 HR295_6 HR296_3 HR296_6 HR297_3 HR297_6 HR303_3 HR303_6 HR310_3 HR310_6 HR316_3 HR316_6 hx295_0 hx295_1 hx295_2 hx295_3 hx295_4 hx295_5 hx295_6 hx295_7 hx295_8 hx296_0 hx296_1 hx296_2 hx296_3 hx296_4 hx296_5 hx296_6 hx296_7 hx296_8 hx297_0 hx297_1 hx297_2 hx297_3 hx297_4 hx297_5 hx297_6 hx297_7 hx297_8 hx303_0 hx303_1 hx303_2 hx303_3 hx303_4 hx303_5 hx303_6 hx303_7 hx303_8 hx310_0 hx310_1 hx310_2 hx310_3 hx310_4 hx310_5 hx310_6 hx310_7 hx310_8 hx316_0 hx316_1 hx316_2 hx316_3 hx316_4 hx316_5 hx316_6 hx316_7 hx316_8 hHeld ⊢
          refine pa_ 0 17 (bm 43 0x1) HT_ (h := ?_)
          refine pa_ 1 18 (bm 43 0x3) HT_ (h := ?_)
          refine pa_ 2 19 (bm 43 0x7) HT_ (h := ?_)
          refine pa_ 3 20 (bm 43 0xf) HT_ (h := ?_)
          refine pa_ 5 22 (bm 43 0x2f) HT_ (h := ?_)
          refine pa_ 6 23 (bm 43 0x6f) HT_ (h := ?_)
          refine pa_ 7 24 (bm 43 0xef) HT_ (h := ?_)
          refine pa_ 8 25 (bm 43 0x1ef) HT_ (h := ?_)
          refine take_ (i := 4) (N := some 21) (v := ?_) (a' := ?_) (bm 43 0x1ff) rfl rfl (take_ofW HT_.out HW_.out (by kernel_rfl)) (fun _ _ _ h => h) (Or.inl ⟨by rfl, ?_⟩) hHeld ?_ ?_
          rotate_left
          ·
           rintro w' ⟨s0, s1, s2, s3, s4, s5, s6, s7, s8, s9, s10, s11, s12, s13, s14, s15, s16, s17, s18, s19, s20, s21, s22, s23, s24, s25, s26, s27, s28, s29, s30, s31, s32, s33, s34, s35, s36, s37, s38, s39, s40, s41, s42, s43, s44, s45, s46, s47, s48, s49, s50, s51, s52, s53⟩
           go_simp
           with_reducible rfl
          rotate_left
          ·
           simp only [Act.put, sbA, sbB, sbC, i64_w, i32_w]
           rfl
          refine take_ (i := 9) (N := some 26) (v := ?_) (a' := ?_) (bm 43 0x3ff) rfl rfl (take_ofW HT_.out HW_.out (by kernel_rfl)) (fun _ _ _ h => h) (Or.inl ⟨by rfl, ?_⟩) hHeld ?_ ?_
          rotate_left
          ·
           rintro w' ⟨s0, s1, s2, s3, s4, s5, s6, s7, s8, s9, s10, s11, s12, s13, s14, s15, s16, s17, s18, s19, s20, s21, s22, s23, s24, s25, s26, s27, s28, s29, s30, s31, s32, s33, s34, s35, s36, s37, s38, s39, s40, s41, s42, s43, s44, s45, s46, s47, s48, s49, s50, s51, s52, s53⟩
           go_simp
           with_reducible rfl
          rotate_left
          ·
           simp only [Act.put, sbA, sbB, sbC, i64_w, i32_w]
           rfl
          refine pa_ 10 27 (bm 43 0x7ff) HT_ (h := ?_)
          refine pa_ 11 28 (bm 43 0xfff) HT_ (h := ?_)
          refine pa_ 12 29 (bm 43 0x1fff) HT_ (h := ?_)
          refine pa_ 13 30 (bm 43 0x3fff) HT_ (h := ?_)
          refine pa_ 14 31 (bm 43 0x7fff) HT_ (h := ?_)
          refine pa_ 15 32 (bm 43 0xffff) HT_ (h := ?_)
          refine pa_ 18 35 (bm 43 0x4ffff) HT_ (h := ?_)
          refine pa_ 19 36 (bm 43 0xcffff) HT_ (h := ?_)
          refine pa_ 20 37 (bm 43 0x1cffff) HT_ (h := ?_)
          refine pa_ 21 38 (bm 43 0x3cffff) HT_ (h := ?_)
          refine take_ (i := 16) (N := some 33) (v := ?_) (a' := ?_) (bm 43 0x3dffff) rfl rfl (take_ofW HT_.out HW_.out (by kernel_rfl)) (fun _ _ _ h => h) (Or.inl ⟨by rfl, ?_⟩) hHeld ?_ ?_
          rotate_left
          ·
           rintro w' ⟨s0, s1, s2, s3, s4, s5, s6, s7, s8, s9, s10, s11, s12, s13, s14, s15, s16, s17, s18, s19, s20, s21, s22, s23, s24, s25, s26, s27, s28, s29, s30, s31, s32, s33, s34, s35, s36, s37, s38, s39, s40, s41, s42, s43, s44, s45, s46, s47, s48, s49, s50, s51, s52, s53⟩
           go_simp
           with_reducible rfl
          rotate_left
          ·
           simp only [Act.put, sbA, sbB, sbC, i64_w, i32_w]
           rfl
          refine take_ (i := 22) (N := some 39) (v := ?_) (a' := ?_) (bm 43 0x7dffff) rfl rfl (take_ofW HT_.out HW_.out (by kernel_rfl)) (fun _ _ _ h => h) (Or.inl ⟨by rfl, ?_⟩) hHeld ?_ ?_
          rotate_left
          ·
           rintro w' ⟨s0, s1, s2, s3, s4, s5, s6, s7, s8, s9, s10, s11, s12, s13, s14, s15, s16, s17, s18, s19, s20, s21, s22, s23, s24, s25, s26, s27, s28, s29, s30, s31, s32, s33, s34, s35, s36, s37, s38, s39, s40, s41, s42, s43, s44, s45, s46, s47, s48, s49, s50, s51, s52, s53⟩
           go_simp
           with_reducible rfl
          rotate_left
          ·
           simp only [Act.put, sbA, sbB, sbC, i64_w, i32_w]
           rfl
          refine one_ (i := 17) (N := some 34) (bm 43 0x7fffff) rfl rfl (one_of HT_.out (by kernel_rfl)) (by decide) (fun K hK => ?_)
          refine goes_ Try.func15 (by kernel_rfl) rfl #[.agg #[.slice A295_3 ((rd_T76 l0 x5_1).f1.f0).length c295_3, .int .i64 ((rd_T76 l0 x5_1).f1.f1), .int .i64 ((rd_T76 l0 x5_1).f1.f2)]] (by rfl) rfl rfl (by (try simp only [List.map_toArray, List.map_cons, List.map_nil]); rfl) ?_
          with_reducible refine (remontoirlaw03_As.calls (fun k_ => k_ < w.heap.size) _ _ ((rd_T76 l0 x5_1).f1.f0) ((rd_T76 l0 x5_1).f1.f1) ((rd_T76 l0 x5_1).f1.f2) t298 t301 t302 _ ?side1 A9.out).mono ?_
          (case side1 => exact Kd.V_mk HC297_3.out (Kd.F_below (Kd.C_F (Kd.heap_int .i64) HR297_3.out) HB.out))
          rintro e w18 ⟨v299, rfl, ho0, hb⟩
          refine ⟨_, rfl, ?_⟩
          have n0_ := Aside0.mk (Kd.V_lower (Kd.V_mono (ok' := fun k_ => True) ho0 (fun k_ hk_ => trivial)) (below_size HB.out))
          have HO300 := n0_; clear n0_; replace HB := hb_ HB hb
          (try clear hb)
          (try clear hb2)
          (try clear hk)
          (try clear hi)
          (try clear ho0)
          refine hK.out _ _ ⟨bc_ HB.out hw295_0, bc_ HB.out hw295_1, bc_ HB.out hw295_2, bc_ HB.out hw295_3, bc_ HB.out hw295_4, bc_ HB.out hw295_5, bc_ HB.out hw295_6, bc_ HB.out hw295_7, bc_ HB.out hw295_8, bc_ HB.out hw296_0, bc_ HB.out hw296_1, bc_ HB.out hw296_2, bc_ HB.out hw296_3, bc_ HB.out hw296_4, bc_ HB.out hw296_5, bc_ HB.out hw296_6, bc_ HB.out hw296_7, bc_ HB.out hw296_8, bc_ HB.out hw297_0, bc_ HB.out hw297_1, bc_ HB.out hw297_2, bc_ HB.out hw297_3, bc_ HB.out hw297_4, bc_ HB.out hw297_5, bc_ HB.out hw297_6, bc_ HB.out hw297_7, bc_ HB.out hw297_8, bc_ HB.out hw303_0, bc_ HB.out hw303_1, bc_ HB.out hw303_2, bc_ HB.out hw303_3, bc_ HB.out hw303_4, bc_ HB.out hw303_5, bc_ HB.out hw303_6, bc_ HB.out hw303_7, bc_ HB.out hw303_8, bc_ HB.out hw310_0, bc_ HB.out hw310_1, bc_ HB.out hw310_2, bc_ HB.out hw310_3, bc_ HB.out hw310_4, bc_ HB.out hw310_5, bc_ HB.out hw310_6, bc_ HB.out hw310_7, bc_ HB.out hw310_8, bc_ HB.out hw316_0, bc_ HB.out hw316_1, bc_ HB.out hw316_2, bc_ HB.out hw316_3, bc_ HB.out hw316_4, bc_ HB.out hw316_5, bc_ HB.out hw316_6, bc_ HB.out hw316_7, bc_ HB.out hw316_8⟩ (fun hHeld => ?_)
          clear hK K
          refine nm_ 34 (h := ?_)
          refine one_ (i := 23) (N := some 40) (bm 43 0xffffff) rfl rfl (one_of HT_.out (by kernel_rfl)) (by decide) (fun K hK => ?_)
          refine goes_ Try.func15 (by kernel_rfl) rfl #[.agg #[.slice A296_3 ((rd_T76 l1 x5_1).f1.f0).length c296_3, .int .i64 ((rd_T76 l1 x5_1).f1.f1), .int .i64 ((rd_T76 l1 x5_1).f1.f2)]] (by rfl) rfl rfl (by (try simp only [List.map_toArray, List.map_cons, List.map_nil]); rfl) ?_
          with_reducible refine (remontoirlaw03_As.calls (fun k_ => k_ < w.heap.size) _ _ ((rd_T76 l1 x5_1).f1.f0) ((rd_T76 l1 x5_1).f1.f1) ((rd_T76 l1 x5_1).f1.f2) t304 t307 t308 _ ?side1 A10.out).mono ?_
          (case side1 => exact Kd.V_mk HC303_3.out (Kd.F_below (Kd.C_F (Kd.heap_int .i64) HR303_3.out) HB.out))
          rintro e w19 ⟨v305, rfl, ho0, hb⟩
          refine ⟨_, rfl, ?_⟩
          have n1_ := Aside0.mk (Kd.V_lower (Kd.V_mono (ok' := fun k_ => True) ho0 (fun k_ hk_ => trivial)) (below_size HB.out))
          have HO306 := n1_; clear n1_; replace HO300 := vb_ HO300 hb; replace HB := hb_ HB hb
          (try clear hb)
          (try clear hb2)
          (try clear hk)
          (try clear hi)
          (try clear ho0)
          obtain ⟨Ao20, co20, eo20⟩ := Kd.V_slice HO300.out
          ((subst eo20))
          obtain ⟨Ao21, co21, eo21⟩ := Kd.V_slice HO306.out
          ((subst eo21))
          refine hK.out _ _ ⟨bc_ HB.out hw295_0, bc_ HB.out hw295_1, bc_ HB.out hw295_2, bc_ HB.out hw295_3, bc_ HB.out hw295_4, bc_ HB.out hw295_5, bc_ HB.out hw295_6, bc_ HB.out hw295_7, bc_ HB.out hw295_8, bc_ HB.out hw296_0, bc_ HB.out hw296_1, bc_ HB.out hw296_2, bc_ HB.out hw296_3, bc_ HB.out hw296_4, bc_ HB.out hw296_5, bc_ HB.out hw296_6, bc_ HB.out hw296_7, bc_ HB.out hw296_8, bc_ HB.out hw297_0, bc_ HB.out hw297_1, bc_ HB.out hw297_2, bc_ HB.out hw297_3, bc_ HB.out hw297_4, bc_ HB.out hw297_5, bc_ HB.out hw297_6, bc_ HB.out hw297_7, bc_ HB.out hw297_8, bc_ HB.out hw303_0, bc_ HB.out hw303_1, bc_ HB.out hw303_2, bc_ HB.out hw303_3, bc_ HB.out hw303_4, bc_ HB.out hw303_5, bc_ HB.out hw303_6, bc_ HB.out hw303_7, bc_ HB.out hw303_8, bc_ HB.out hw310_0, bc_ HB.out hw310_1, bc_ HB.out hw310_2, bc_ HB.out hw310_3, bc_ HB.out hw310_4, bc_ HB.out hw310_5, bc_ HB.out hw310_6, bc_ HB.out hw310_7, bc_ HB.out hw310_8, bc_ HB.out hw316_0, bc_ HB.out hw316_1, bc_ HB.out hw316_2, bc_ HB.out hw316_3, bc_ HB.out hw316_4, bc_ HB.out hw316_5, bc_ HB.out hw316_6, bc_ HB.out hw316_7, bc_ HB.out hw316_8⟩ (fun hHeld => ?_)
          clear hK K
          refine nm_ 40 (h := ?_)
          refine one_ (i := 24) (N := some 41) (bm 43 0x1ffffff) rfl rfl (one_of HT_.out (by kernel_rfl)) (by decide) (fun K hK => ?_)
          refine goes_ Try.func20 (by kernel_rfl) rfl #[.agg #[.slice Ao20 t298.length co20, .int .i64 t301, .int .i64 t302], .agg #[.slice Ao21 t304.length co21, .int .i64 t307, .int .i64 t308]] (by rfl) rfl rfl (by (try simp only [List.map_toArray, List.map_cons, List.map_nil]); rfl) ?_
          with_reducible refine (remontoirref03_Same.calls k1 _ _ t298 t301 t302 _ _ t304 t307 t308 true _ ?side1 ?side2 ?side3 ?side4 A11.out).mono ?_
          (case side1 => repeat ((exact (Kd.V_reads' HO300.out).2.2)))
          (case side2 => exact (Kd.V_reads' HO300.out).2.1)
          (case side3 => repeat ((exact (Kd.V_reads' HO306.out).2.2)))
          (case side4 => exact (Kd.V_reads' HO306.out).2.1)
          rintro e w22 ⟨rfl, hb⟩
          refine ⟨_, rfl, ?_⟩
          replace HO300 := vb_ HO300 hb; replace HO306 := vb_ HO306 hb; replace HB := hb_ HB hb
          (try clear hb)
          (try clear hb2)
          (try clear hk)
          (try clear hi)
          refine hK.out _ _ ⟨bc_ HB.out hw295_0, bc_ HB.out hw295_1, bc_ HB.out hw295_2, bc_ HB.out hw295_3, bc_ HB.out hw295_4, bc_ HB.out hw295_5, bc_ HB.out hw295_6, bc_ HB.out hw295_7, bc_ HB.out hw295_8, bc_ HB.out hw296_0, bc_ HB.out hw296_1, bc_ HB.out hw296_2, bc_ HB.out hw296_3, bc_ HB.out hw296_4, bc_ HB.out hw296_5, bc_ HB.out hw296_6, bc_ HB.out hw296_7, bc_ HB.out hw296_8, bc_ HB.out hw297_0, bc_ HB.out hw297_1, bc_ HB.out hw297_2, bc_ HB.out hw297_3, bc_ HB.out hw297_4, bc_ HB.out hw297_5, bc_ HB.out hw297_6, bc_ HB.out hw297_7, bc_ HB.out hw297_8, bc_ HB.out hw303_0, bc_ HB.out hw303_1, bc_ HB.out hw303_2, bc_ HB.out hw303_3, bc_ HB.out hw303_4, bc_ HB.out hw303_5, bc_ HB.out hw303_6, bc_ HB.out hw303_7, bc_ HB.out hw303_8, bc_ HB.out hw310_0, bc_ HB.out hw310_1, bc_ HB.out hw310_2, bc_ HB.out hw310_3, bc_ HB.out hw310_4, bc_ HB.out hw310_5, bc_ HB.out hw310_6, bc_ HB.out hw310_7, bc_ HB.out hw310_8, bc_ HB.out hw316_0, bc_ HB.out hw316_1, bc_ HB.out hw316_2, bc_ HB.out hw316_3, bc_ HB.out hw316_4, bc_ HB.out hw316_5, bc_ HB.out hw316_6, bc_ HB.out hw316_7, bc_ HB.out hw316_8⟩ (fun hHeld => ?_)
          clear hK K
          refine nm_ 41 (h := ?_)
          refine pa_ 25 42 (bm 43 0x3ffffff) HT_ (h := ?_)
          refine pa_ 26 43 (bm 43 0x7ffffff) HT_ (h := ?_)
          refine pa_ 27 44 (bm 43 0xfffffff) HT_ (h := ?_)
          refine pa_ 28 45 (bm 43 0x1fffffff) HT_ (h := ?_)
          refine pa_ 29 46 (bm 43 0x3fffffff) HT_ (h := ?_)
          refine pa_ 30 47 (bm 43 0x7fffffff) HT_ (h := ?_)
          refine pa_ 31 48 (bm 43 0xffffffff) HT_ (h := ?_)
          refine pa_ 34 51 (bm 43 0x4ffffffff) HT_ (h := ?_)
          refine pa_ 35 52 (bm 43 0xcffffffff) HT_ (h := ?_)
          refine pa_ 36 53 (bm 43 0x1cffffffff) HT_ (h := ?_)
          refine pa_ 37 54 (bm 43 0x3cffffffff) HT_ (h := ?_)
          refine take_ (i := 32) (N := some 49) (v := ?_) (a' := ?_) (bm 43 0x3dffffffff) rfl rfl (take_ofW HT_.out HW_.out (by kernel_rfl)) (fun _ _ _ h => h) (Or.inl ⟨by rfl, ?_⟩) hHeld ?_ ?_
          rotate_left
          ·
           rintro w' ⟨s0, s1, s2, s3, s4, s5, s6, s7, s8, s9, s10, s11, s12, s13, s14, s15, s16, s17, s18, s19, s20, s21, s22, s23, s24, s25, s26, s27, s28, s29, s30, s31, s32, s33, s34, s35, s36, s37, s38, s39, s40, s41, s42, s43, s44, s45, s46, s47, s48, s49, s50, s51, s52, s53⟩
           go_simp
           with_reducible rfl
          rotate_left
          ·
           simp only [Act.put, sbA, sbB, sbC, i64_w, i32_w]
           rfl
          refine take_ (i := 38) (N := some 55) (v := ?_) (a' := ?_) (bm 43 0x7dffffffff) rfl rfl (take_ofW HT_.out HW_.out (by kernel_rfl)) (fun _ _ _ h => h) (Or.inl ⟨by rfl, ?_⟩) hHeld ?_ ?_
          rotate_left
          ·
           rintro w' ⟨s0, s1, s2, s3, s4, s5, s6, s7, s8, s9, s10, s11, s12, s13, s14, s15, s16, s17, s18, s19, s20, s21, s22, s23, s24, s25, s26, s27, s28, s29, s30, s31, s32, s33, s34, s35, s36, s37, s38, s39, s40, s41, s42, s43, s44, s45, s46, s47, s48, s49, s50, s51, s52, s53⟩
           go_simp
           with_reducible rfl
          rotate_left
          ·
           simp only [Act.put, sbA, sbB, sbC, i64_w, i32_w]
           rfl
          refine one_ (i := 33) (N := some 50) (bm 43 0x7fffffffff) rfl rfl (one_of HT_.out (by kernel_rfl)) (by decide) (fun K hK => ?_)
          refine goes_ Try.func15 (by kernel_rfl) rfl #[.agg #[.slice A295_6 ((rd_T76 l0 x5_1).f2.f0).length c295_6, .int .i64 ((rd_T76 l0 x5_1).f2.f1), .int .i64 ((rd_T76 l0 x5_1).f2.f2)]] (by rfl) rfl rfl (by (try simp only [List.map_toArray, List.map_cons, List.map_nil]); rfl) ?_
          with_reducible refine (remontoirlaw03_As.calls (fun k_ => k_ < w.heap.size) _ _ ((rd_T76 l0 x5_1).f2.f0) ((rd_T76 l0 x5_1).f2.f1) ((rd_T76 l0 x5_1).f2.f2) t311 t314 t315 _ ?side1 A13.out).mono ?_
          (case side1 => exact Kd.V_mk HC310_6.out (Kd.F_below (Kd.C_F (Kd.heap_int .i64) HR310_6.out) HB.out))
          rintro e w23 ⟨v312, rfl, ho0, hb⟩
          refine ⟨_, rfl, ?_⟩
          have n2_ := Aside0.mk (Kd.V_lower (Kd.V_mono (ok' := fun k_ => True) ho0 (fun k_ hk_ => trivial)) (below_size HB.out))
          have HO313 := n2_; clear n2_; replace HO300 := vb_ HO300 hb; replace HO306 := vb_ HO306 hb; replace HB := hb_ HB hb
          (try clear hb)
          (try clear hb2)
          (try clear hk)
          (try clear hi)
          (try clear ho0)
          refine hK.out _ _ ⟨bc_ HB.out hw295_0, bc_ HB.out hw295_1, bc_ HB.out hw295_2, bc_ HB.out hw295_3, bc_ HB.out hw295_4, bc_ HB.out hw295_5, bc_ HB.out hw295_6, bc_ HB.out hw295_7, bc_ HB.out hw295_8, bc_ HB.out hw296_0, bc_ HB.out hw296_1, bc_ HB.out hw296_2, bc_ HB.out hw296_3, bc_ HB.out hw296_4, bc_ HB.out hw296_5, bc_ HB.out hw296_6, bc_ HB.out hw296_7, bc_ HB.out hw296_8, bc_ HB.out hw297_0, bc_ HB.out hw297_1, bc_ HB.out hw297_2, bc_ HB.out hw297_3, bc_ HB.out hw297_4, bc_ HB.out hw297_5, bc_ HB.out hw297_6, bc_ HB.out hw297_7, bc_ HB.out hw297_8, bc_ HB.out hw303_0, bc_ HB.out hw303_1, bc_ HB.out hw303_2, bc_ HB.out hw303_3, bc_ HB.out hw303_4, bc_ HB.out hw303_5, bc_ HB.out hw303_6, bc_ HB.out hw303_7, bc_ HB.out hw303_8, bc_ HB.out hw310_0, bc_ HB.out hw310_1, bc_ HB.out hw310_2, bc_ HB.out hw310_3, bc_ HB.out hw310_4, bc_ HB.out hw310_5, bc_ HB.out hw310_6, bc_ HB.out hw310_7, bc_ HB.out hw310_8, bc_ HB.out hw316_0, bc_ HB.out hw316_1, bc_ HB.out hw316_2, bc_ HB.out hw316_3, bc_ HB.out hw316_4, bc_ HB.out hw316_5, bc_ HB.out hw316_6, bc_ HB.out hw316_7, bc_ HB.out hw316_8⟩ (fun hHeld => ?_)
          clear hK K
          refine nm_ 50 (h := ?_)
          refine one_ (i := 39) (N := some 56) (bm 43 0xffffffffff) rfl rfl (one_of HT_.out (by kernel_rfl)) (by decide) (fun K hK => ?_)
          refine goes_ Try.func15 (by kernel_rfl) rfl #[.agg #[.slice A296_6 ((rd_T76 l1 x5_1).f2.f0).length c296_6, .int .i64 ((rd_T76 l1 x5_1).f2.f1), .int .i64 ((rd_T76 l1 x5_1).f2.f2)]] (by rfl) rfl rfl (by (try simp only [List.map_toArray, List.map_cons, List.map_nil]); rfl) ?_
          with_reducible refine (remontoirlaw03_As.calls (fun k_ => k_ < w.heap.size) _ _ ((rd_T76 l1 x5_1).f2.f0) ((rd_T76 l1 x5_1).f2.f1) ((rd_T76 l1 x5_1).f2.f2) t317 t320 t321 _ ?side1 A14.out).mono ?_
          (case side1 => exact Kd.V_mk HC316_6.out (Kd.F_below (Kd.C_F (Kd.heap_int .i64) HR316_6.out) HB.out))
          rintro e w24 ⟨v318, rfl, ho0, hb⟩
          refine ⟨_, rfl, ?_⟩
          have n3_ := Aside0.mk (Kd.V_lower (Kd.V_mono (ok' := fun k_ => True) ho0 (fun k_ hk_ => trivial)) (below_size HB.out))
          have HO319 := n3_; clear n3_; replace HO300 := vb_ HO300 hb; replace HO306 := vb_ HO306 hb; replace HO313 := vb_ HO313 hb; replace HB := hb_ HB hb
          (try clear hb)
          (try clear hb2)
          (try clear hk)
          (try clear hi)
          (try clear ho0)
          obtain ⟨Ao25, co25, eo25⟩ := Kd.V_slice HO313.out
          ((subst eo25))
          obtain ⟨Ao26, co26, eo26⟩ := Kd.V_slice HO319.out
          ((subst eo26))
          refine hK.out _ _ ⟨bc_ HB.out hw295_0, bc_ HB.out hw295_1, bc_ HB.out hw295_2, bc_ HB.out hw295_3, bc_ HB.out hw295_4, bc_ HB.out hw295_5, bc_ HB.out hw295_6, bc_ HB.out hw295_7, bc_ HB.out hw295_8, bc_ HB.out hw296_0, bc_ HB.out hw296_1, bc_ HB.out hw296_2, bc_ HB.out hw296_3, bc_ HB.out hw296_4, bc_ HB.out hw296_5, bc_ HB.out hw296_6, bc_ HB.out hw296_7, bc_ HB.out hw296_8, bc_ HB.out hw297_0, bc_ HB.out hw297_1, bc_ HB.out hw297_2, bc_ HB.out hw297_3, bc_ HB.out hw297_4, bc_ HB.out hw297_5, bc_ HB.out hw297_6, bc_ HB.out hw297_7, bc_ HB.out hw297_8, bc_ HB.out hw303_0, bc_ HB.out hw303_1, bc_ HB.out hw303_2, bc_ HB.out hw303_3, bc_ HB.out hw303_4, bc_ HB.out hw303_5, bc_ HB.out hw303_6, bc_ HB.out hw303_7, bc_ HB.out hw303_8, bc_ HB.out hw310_0, bc_ HB.out hw310_1, bc_ HB.out hw310_2, bc_ HB.out hw310_3, bc_ HB.out hw310_4, bc_ HB.out hw310_5, bc_ HB.out hw310_6, bc_ HB.out hw310_7, bc_ HB.out hw310_8, bc_ HB.out hw316_0, bc_ HB.out hw316_1, bc_ HB.out hw316_2, bc_ HB.out hw316_3, bc_ HB.out hw316_4, bc_ HB.out hw316_5, bc_ HB.out hw316_6, bc_ HB.out hw316_7, bc_ HB.out hw316_8⟩ (fun hHeld => ?_)
          clear hK K
          refine nm_ 56 (h := ?_)
          refine one_ (i := 40) (N := some 57) (bm 43 0x1ffffffffff) rfl rfl (one_of HT_.out (by kernel_rfl)) (by decide) (fun K hK => ?_)
          refine goes_ Try.func20 (by kernel_rfl) rfl #[.agg #[.slice Ao25 t311.length co25, .int .i64 t314, .int .i64 t315], .agg #[.slice Ao26 t317.length co26, .int .i64 t320, .int .i64 t321]] (by rfl) rfl rfl (by (try simp only [List.map_toArray, List.map_cons, List.map_nil]); rfl) ?_
          with_reducible refine (remontoirref03_Same.calls k1 _ _ t311 t314 t315 _ _ t317 t320 t321 true _ ?side1 ?side2 ?side3 ?side4 A15.out).mono ?_
          (case side1 => repeat ((exact (Kd.V_reads' HO313.out).2.2)))
          (case side2 => exact (Kd.V_reads' HO313.out).2.1)
          (case side3 => repeat ((exact (Kd.V_reads' HO319.out).2.2)))
          (case side4 => exact (Kd.V_reads' HO319.out).2.1)
          rintro e w27 ⟨rfl, hb⟩
          refine ⟨_, rfl, ?_⟩
          replace HO300 := vb_ HO300 hb; replace HO306 := vb_ HO306 hb; replace HO313 := vb_ HO313 hb; replace HO319 := vb_ HO319 hb; replace HB := hb_ HB hb
          (try clear hb)
          (try clear hb2)
          (try clear hk)
          (try clear hi)
          refine hK.out _ _ ⟨bc_ HB.out hw295_0, bc_ HB.out hw295_1, bc_ HB.out hw295_2, bc_ HB.out hw295_3, bc_ HB.out hw295_4, bc_ HB.out hw295_5, bc_ HB.out hw295_6, bc_ HB.out hw295_7, bc_ HB.out hw295_8, bc_ HB.out hw296_0, bc_ HB.out hw296_1, bc_ HB.out hw296_2, bc_ HB.out hw296_3, bc_ HB.out hw296_4, bc_ HB.out hw296_5, bc_ HB.out hw296_6, bc_ HB.out hw296_7, bc_ HB.out hw296_8, bc_ HB.out hw297_0, bc_ HB.out hw297_1, bc_ HB.out hw297_2, bc_ HB.out hw297_3, bc_ HB.out hw297_4, bc_ HB.out hw297_5, bc_ HB.out hw297_6, bc_ HB.out hw297_7, bc_ HB.out hw297_8, bc_ HB.out hw303_0, bc_ HB.out hw303_1, bc_ HB.out hw303_2, bc_ HB.out hw303_3, bc_ HB.out hw303_4, bc_ HB.out hw303_5, bc_ HB.out hw303_6, bc_ HB.out hw303_7, bc_ HB.out hw303_8, bc_ HB.out hw310_0, bc_ HB.out hw310_1, bc_ HB.out hw310_2, bc_ HB.out hw310_3, bc_ HB.out hw310_4, bc_ HB.out hw310_5, bc_ HB.out hw310_6, bc_ HB.out hw310_7, bc_ HB.out hw310_8, bc_ HB.out hw316_0, bc_ HB.out hw316_1, bc_ HB.out hw316_2, bc_ HB.out hw316_3, bc_ HB.out hw316_4, bc_ HB.out hw316_5, bc_ HB.out hw316_6, bc_ HB.out hw316_7, bc_ HB.out hw316_8⟩ (fun hHeld => ?_)
          clear hK K
          refine nm_ 57 (h := ?_)
          refine pa_ 41 58 (bm 43 0x3ffffffffff) HT_ (h := ?_)
          refine pa_ 42 59 (bm 43 0x7ffffffffff) HT_ (h := ?_)
          refine done_ (done_of HT_.out (by kernel_rfl)) ?_
          try go_wp2
          go_roundg k1
          case measure => have := HK1.out; omega
          case rel => exact ⟨(wrap64 (x5_1 + 1)), (by rfl), H', ⟨by have := HK1.out; omega⟩, ⟨HB.out⟩⟩
         ·
          replace c16 := Bool.eq_false_iff.mpr c16
          subst c16
          have H1 : (some false) = some r := by rw [if_neg (show ¬ (false = true) by decide)] at H; exact H
          clear H
          have H := H1
          clear H1
          obtain rfl := Option.some.inj H
          try go_wp2
          have n0_ := Aside0.mk (below_drew1 HB.out)
          clear HB; have HB := n0_; clear n0_
          have p295 : 0 ≤ (x5_1 : Int) := of_decide_eq_true (by (with_reducible assumption))
          have q295 : x5_1 < (l0.length : Int) := of_decide_eq_true (by (with_reducible assumption))
          obtain ⟨ad295, A295_3, c295_3, A295_6, c295_6, e295, hx295_0, hx295_1, hx295_2, hx295_3, hx295_4, hx295_5, hx295_6, hx295_7, hx295_8, hl295_3, hi295_3, hl295_6, hi295_6⟩ := at_T76 HR0.out x5_1 p295 q295
          have hw295_8 := hx295_8
          have hw295_7 := hx295_7
          have hw295_6 := hx295_6
          have hw295_5 := hx295_5
          have hw295_4 := hx295_4
          have hw295_3 := hx295_3
          have hw295_2 := hx295_2
          have hw295_1 := hx295_1
          have hw295_0 := hx295_0
          cases e295
          replace hx295_0 := bc_ HB.out hx295_0
          replace hx295_1 := bc_ HB.out hx295_1
          replace hx295_2 := bc_ HB.out hx295_2
          replace hx295_3 := bc_ HB.out hx295_3
          replace hx295_4 := bc_ HB.out hx295_4
          replace hx295_5 := bc_ HB.out hx295_5
          replace hx295_6 := bc_ HB.out hx295_6
          replace hx295_7 := bc_ HB.out hx295_7
          replace hx295_8 := bc_ HB.out hx295_8
          have HR295_3 := Aside0.mk hi295_3
          have HC295_3 := Aside0.mk hl295_3
          clear hi295_3 hl295_3
          have HR295_6 := Aside0.mk hi295_6
          have HC295_6 := Aside0.mk hl295_6
          clear hi295_6 hl295_6
          replace p295 := eq_true p295
          replace q295 := eq_true q295
          have p296 : 0 ≤ (x5_1 : Int) := of_decide_eq_true (by (with_reducible assumption))
          have q296 : x5_1 < (l1.length : Int) := of_decide_eq_true (by (with_reducible assumption))
          obtain ⟨ad296, A296_3, c296_3, A296_6, c296_6, e296, hx296_0, hx296_1, hx296_2, hx296_3, hx296_4, hx296_5, hx296_6, hx296_7, hx296_8, hl296_3, hi296_3, hl296_6, hi296_6⟩ := at_T76 HR1.out x5_1 p296 q296
          have hw296_8 := hx296_8
          have hw296_7 := hx296_7
          have hw296_6 := hx296_6
          have hw296_5 := hx296_5
          have hw296_4 := hx296_4
          have hw296_3 := hx296_3
          have hw296_2 := hx296_2
          have hw296_1 := hx296_1
          have hw296_0 := hx296_0
          cases e296
          replace hx296_0 := bc_ HB.out hx296_0
          replace hx296_1 := bc_ HB.out hx296_1
          replace hx296_2 := bc_ HB.out hx296_2
          replace hx296_3 := bc_ HB.out hx296_3
          replace hx296_4 := bc_ HB.out hx296_4
          replace hx296_5 := bc_ HB.out hx296_5
          replace hx296_6 := bc_ HB.out hx296_6
          replace hx296_7 := bc_ HB.out hx296_7
          replace hx296_8 := bc_ HB.out hx296_8
          have HR296_3 := Aside0.mk hi296_3
          have HC296_3 := Aside0.mk hl296_3
          clear hi296_3 hl296_3
          have HR296_6 := Aside0.mk hi296_6
          have HC296_6 := Aside0.mk hl296_6
          clear hi296_6 hl296_6
          replace p296 := eq_true p296
          replace q296 := eq_true q296
          have p297 : 0 ≤ (x5_1 : Int) := of_decide_eq_true (by (with_reducible assumption))
          have q297 : x5_1 < (l0.length : Int) := of_decide_eq_true (by (with_reducible assumption))
          obtain ⟨ad297, A297_3, c297_3, A297_6, c297_6, e297, hx297_0, hx297_1, hx297_2, hx297_3, hx297_4, hx297_5, hx297_6, hx297_7, hx297_8, hl297_3, hi297_3, hl297_6, hi297_6⟩ := at_T76 HR0.out x5_1 p297 q297
          have hw297_8 := hx297_8
          have hw297_7 := hx297_7
          have hw297_6 := hx297_6
          have hw297_5 := hx297_5
          have hw297_4 := hx297_4
          have hw297_3 := hx297_3
          have hw297_2 := hx297_2
          have hw297_1 := hx297_1
          have hw297_0 := hx297_0
          obtain rfl : ad295 = ad297 := (by injection e297)
          replace hx297_0 := bc_ HB.out hx297_0
          replace hx297_1 := bc_ HB.out hx297_1
          replace hx297_2 := bc_ HB.out hx297_2
          replace hx297_3 := bc_ HB.out hx297_3
          replace hx297_4 := bc_ HB.out hx297_4
          replace hx297_5 := bc_ HB.out hx297_5
          replace hx297_6 := bc_ HB.out hx297_6
          replace hx297_7 := bc_ HB.out hx297_7
          replace hx297_8 := bc_ HB.out hx297_8
          have HR297_3 := Aside0.mk hi297_3
          have HC297_3 := Aside0.mk hl297_3
          clear hi297_3 hl297_3
          have HR297_6 := Aside0.mk hi297_6
          have HC297_6 := Aside0.mk hl297_6
          clear hi297_6 hl297_6
          replace p297 := eq_true p297
          replace q297 := eq_true q297
          have ea_ := Option.some.inj (hx295_3.symm.trans hx297_3)
          injection ea_ with ea_ en_ ec_
          subst ea_
          subst ec_
          clear en_
          have ea_ := Option.some.inj (hx295_6.symm.trans hx297_6)
          injection ea_ with ea_ en_ ec_
          subst ea_
          subst ec_
          clear en_
          have p303 : 0 ≤ (x5_1 : Int) := of_decide_eq_true (by (with_reducible assumption))
          have q303 : x5_1 < (l1.length : Int) := of_decide_eq_true (by (with_reducible assumption))
          obtain ⟨ad303, A303_3, c303_3, A303_6, c303_6, e303, hx303_0, hx303_1, hx303_2, hx303_3, hx303_4, hx303_5, hx303_6, hx303_7, hx303_8, hl303_3, hi303_3, hl303_6, hi303_6⟩ := at_T76 HR1.out x5_1 p303 q303
          have hw303_8 := hx303_8
          have hw303_7 := hx303_7
          have hw303_6 := hx303_6
          have hw303_5 := hx303_5
          have hw303_4 := hx303_4
          have hw303_3 := hx303_3
          have hw303_2 := hx303_2
          have hw303_1 := hx303_1
          have hw303_0 := hx303_0
          obtain rfl : ad296 = ad303 := (by injection e303)
          replace hx303_0 := bc_ HB.out hx303_0
          replace hx303_1 := bc_ HB.out hx303_1
          replace hx303_2 := bc_ HB.out hx303_2
          replace hx303_3 := bc_ HB.out hx303_3
          replace hx303_4 := bc_ HB.out hx303_4
          replace hx303_5 := bc_ HB.out hx303_5
          replace hx303_6 := bc_ HB.out hx303_6
          replace hx303_7 := bc_ HB.out hx303_7
          replace hx303_8 := bc_ HB.out hx303_8
          have HR303_3 := Aside0.mk hi303_3
          have HC303_3 := Aside0.mk hl303_3
          clear hi303_3 hl303_3
          have HR303_6 := Aside0.mk hi303_6
          have HC303_6 := Aside0.mk hl303_6
          clear hi303_6 hl303_6
          replace p303 := eq_true p303
          replace q303 := eq_true q303
          have ea_ := Option.some.inj (hx296_3.symm.trans hx303_3)
          injection ea_ with ea_ en_ ec_
          subst ea_
          subst ec_
          clear en_
          have ea_ := Option.some.inj (hx296_6.symm.trans hx303_6)
          injection ea_ with ea_ en_ ec_
          subst ea_
          subst ec_
          clear en_
          have p310 : 0 ≤ (x5_1 : Int) := of_decide_eq_true (by (with_reducible assumption))
          have q310 : x5_1 < (l0.length : Int) := of_decide_eq_true (by (with_reducible assumption))
          obtain ⟨ad310, A310_3, c310_3, A310_6, c310_6, e310, hx310_0, hx310_1, hx310_2, hx310_3, hx310_4, hx310_5, hx310_6, hx310_7, hx310_8, hl310_3, hi310_3, hl310_6, hi310_6⟩ := at_T76 HR0.out x5_1 p310 q310
          have hw310_8 := hx310_8
          have hw310_7 := hx310_7
          have hw310_6 := hx310_6
          have hw310_5 := hx310_5
          have hw310_4 := hx310_4
          have hw310_3 := hx310_3
          have hw310_2 := hx310_2
          have hw310_1 := hx310_1
          have hw310_0 := hx310_0
          obtain rfl : ad295 = ad310 := (by injection e310)
          replace hx310_0 := bc_ HB.out hx310_0
          replace hx310_1 := bc_ HB.out hx310_1
          replace hx310_2 := bc_ HB.out hx310_2
          replace hx310_3 := bc_ HB.out hx310_3
          replace hx310_4 := bc_ HB.out hx310_4
          replace hx310_5 := bc_ HB.out hx310_5
          replace hx310_6 := bc_ HB.out hx310_6
          replace hx310_7 := bc_ HB.out hx310_7
          replace hx310_8 := bc_ HB.out hx310_8
          have HR310_3 := Aside0.mk hi310_3
          have HC310_3 := Aside0.mk hl310_3
          clear hi310_3 hl310_3
          have HR310_6 := Aside0.mk hi310_6
          have HC310_6 := Aside0.mk hl310_6
          clear hi310_6 hl310_6
          replace p310 := eq_true p310
          replace q310 := eq_true q310
          have ea_ := Option.some.inj (hx295_3.symm.trans hx310_3)
          injection ea_ with ea_ en_ ec_
          subst ea_
          subst ec_
          clear en_
          have ea_ := Option.some.inj (hx295_6.symm.trans hx310_6)
          injection ea_ with ea_ en_ ec_
          subst ea_
          subst ec_
          clear en_
          have p316 : 0 ≤ (x5_1 : Int) := of_decide_eq_true (by (with_reducible assumption))
          have q316 : x5_1 < (l1.length : Int) := of_decide_eq_true (by (with_reducible assumption))
          obtain ⟨ad316, A316_3, c316_3, A316_6, c316_6, e316, hx316_0, hx316_1, hx316_2, hx316_3, hx316_4, hx316_5, hx316_6, hx316_7, hx316_8, hl316_3, hi316_3, hl316_6, hi316_6⟩ := at_T76 HR1.out x5_1 p316 q316
          have hw316_8 := hx316_8
          have hw316_7 := hx316_7
          have hw316_6 := hx316_6
          have hw316_5 := hx316_5
          have hw316_4 := hx316_4
          have hw316_3 := hx316_3
          have hw316_2 := hx316_2
          have hw316_1 := hx316_1
          have hw316_0 := hx316_0
          obtain rfl : ad296 = ad316 := (by injection e316)
          replace hx316_0 := bc_ HB.out hx316_0
          replace hx316_1 := bc_ HB.out hx316_1
          replace hx316_2 := bc_ HB.out hx316_2
          replace hx316_3 := bc_ HB.out hx316_3
          replace hx316_4 := bc_ HB.out hx316_4
          replace hx316_5 := bc_ HB.out hx316_5
          replace hx316_6 := bc_ HB.out hx316_6
          replace hx316_7 := bc_ HB.out hx316_7
          replace hx316_8 := bc_ HB.out hx316_8
          have HR316_3 := Aside0.mk hi316_3
          have HC316_3 := Aside0.mk hl316_3
          clear hi316_3 hl316_3
          have HR316_6 := Aside0.mk hi316_6
          have HC316_6 := Aside0.mk hl316_6
          clear hi316_6 hl316_6
          replace p316 := eq_true p316
          replace q316 := eq_true q316
          have ea_ := Option.some.inj (hx296_3.symm.trans hx316_3)
          injection ea_ with ea_ en_ ec_
          subst ea_
          subst ec_
          clear en_
          have ea_ := Option.some.inj (hx296_6.symm.trans hx316_6)
          injection ea_ with ea_ en_ ec_
          subst ea_
          subst ec_
          clear en_
          refine start_ (n := 43) (S := fun w' => hc9_ w' (ad295.add ((x5_1).toNat * 9)) (.int .i64 ((rd_T76 l0 x5_1).f0.f0)) (.int .i64 ((rd_T76 l0 x5_1).f0.f1)) (.int .i64 ((rd_T76 l0 x5_1).f0.f2)) (.slice A295_3 ((rd_T76 l0 x5_1).f1.f0).length c295_3) (.int .i64 ((rd_T76 l0 x5_1).f1.f1)) (.int .i64 ((rd_T76 l0 x5_1).f1.f2)) (.slice A295_6 ((rd_T76 l0 x5_1).f2.f0).length c295_6) (.int .i64 ((rd_T76 l0 x5_1).f2.f1)) (.int .i64 ((rd_T76 l0 x5_1).f2.f2)) (hc9_ w' (ad296.add ((x5_1).toNat * 9)) (.int .i64 ((rd_T76 l1 x5_1).f0.f0)) (.int .i64 ((rd_T76 l1 x5_1).f0.f1)) (.int .i64 ((rd_T76 l1 x5_1).f0.f2)) (.slice A296_3 ((rd_T76 l1 x5_1).f1.f0).length c296_3) (.int .i64 ((rd_T76 l1 x5_1).f1.f1)) (.int .i64 ((rd_T76 l1 x5_1).f1.f2)) (.slice A296_6 ((rd_T76 l1 x5_1).f2.f0).length c296_6) (.int .i64 ((rd_T76 l1 x5_1).f2.f1)) (.int .i64 ((rd_T76 l1 x5_1).f2.f2)) (hc9_ w' (ad295.add ((x5_1).toNat * 9)) (.int .i64 ((rd_T76 l0 x5_1).f0.f0)) (.int .i64 ((rd_T76 l0 x5_1).f0.f1)) (.int .i64 ((rd_T76 l0 x5_1).f0.f2)) (.slice A295_3 ((rd_T76 l0 x5_1).f1.f0).length c295_3) (.int .i64 ((rd_T76 l0 x5_1).f1.f1)) (.int .i64 ((rd_T76 l0 x5_1).f1.f2)) (.slice A295_6 ((rd_T76 l0 x5_1).f2.f0).length c295_6) (.int .i64 ((rd_T76 l0 x5_1).f2.f1)) (.int .i64 ((rd_T76 l0 x5_1).f2.f2)) (hc9_ w' (ad296.add ((x5_1).toNat * 9)) (.int .i64 ((rd_T76 l1 x5_1).f0.f0)) (.int .i64 ((rd_T76 l1 x5_1).f0.f1)) (.int .i64 ((rd_T76 l1 x5_1).f0.f2)) (.slice A296_3 ((rd_T76 l1 x5_1).f1.f0).length c296_3) (.int .i64 ((rd_T76 l1 x5_1).f1.f1)) (.int .i64 ((rd_T76 l1 x5_1).f1.f2)) (.slice A296_6 ((rd_T76 l1 x5_1).f2.f0).length c296_6) (.int .i64 ((rd_T76 l1 x5_1).f2.f1)) (.int .i64 ((rd_T76 l1 x5_1).f2.f2)) (hc9_ w' (ad295.add ((x5_1).toNat * 9)) (.int .i64 ((rd_T76 l0 x5_1).f0.f0)) (.int .i64 ((rd_T76 l0 x5_1).f0.f1)) (.int .i64 ((rd_T76 l0 x5_1).f0.f2)) (.slice A295_3 ((rd_T76 l0 x5_1).f1.f0).length c295_3) (.int .i64 ((rd_T76 l0 x5_1).f1.f1)) (.int .i64 ((rd_T76 l0 x5_1).f1.f2)) (.slice A295_6 ((rd_T76 l0 x5_1).f2.f0).length c295_6) (.int .i64 ((rd_T76 l0 x5_1).f2.f1)) (.int .i64 ((rd_T76 l0 x5_1).f2.f2)) (he9_ w' (ad296.add ((x5_1).toNat * 9)) (.int .i64 ((rd_T76 l1 x5_1).f0.f0)) (.int .i64 ((rd_T76 l1 x5_1).f0.f1)) (.int .i64 ((rd_T76 l1 x5_1).f0.f2)) (.slice A296_3 ((rd_T76 l1 x5_1).f1.f0).length c296_3) (.int .i64 ((rd_T76 l1 x5_1).f1.f1)) (.int .i64 ((rd_T76 l1 x5_1).f1.f2)) (.slice A296_6 ((rd_T76 l1 x5_1).f2.f0).length c296_6) (.int .i64 ((rd_T76 l1 x5_1).f2.f1)) (.int .i64 ((rd_T76 l1 x5_1).f2.f2)))))))) (ds := []) #[false, false, false, false, false, false, false, false, false, false, false, false, false, false, false, false, false, false, false, false, false, false, false, false, false, false, false, false, false, false, false, false, false, false, false, false, false, false, false, false, false, false, false] (by kernel_rfl) rfl rfl ⟨(bc_ HB.out hw295_0 :), (bc_ HB.out hw295_1 :), (bc_ HB.out hw295_2 :), (bc_ HB.out hw295_3 :), (bc_ HB.out hw295_4 :), (bc_ HB.out hw295_5 :), (bc_ HB.out hw295_6 :), (bc_ HB.out hw295_7 :), (bc_ HB.out hw295_8 :), (bc_ HB.out hw296_0 :), (bc_ HB.out hw296_1 :), (bc_ HB.out hw296_2 :), (bc_ HB.out hw296_3 :), (bc_ HB.out hw296_4 :), (bc_ HB.out hw296_5 :), (bc_ HB.out hw296_6 :), (bc_ HB.out hw296_7 :), (bc_ HB.out hw296_8 :), (bc_ HB.out hw297_0 :), (bc_ HB.out hw297_1 :), (bc_ HB.out hw297_2 :), (bc_ HB.out hw297_3 :), (bc_ HB.out hw297_4 :), (bc_ HB.out hw297_5 :), (bc_ HB.out hw297_6 :), (bc_ HB.out hw297_7 :), (bc_ HB.out hw297_8 :), (bc_ HB.out hw303_0 :), (bc_ HB.out hw303_1 :), (bc_ HB.out hw303_2 :), (bc_ HB.out hw303_3 :), (bc_ HB.out hw303_4 :), (bc_ HB.out hw303_5 :), (bc_ HB.out hw303_6 :), (bc_ HB.out hw303_7 :), (bc_ HB.out hw303_8 :), (bc_ HB.out hw310_0 :), (bc_ HB.out hw310_1 :), (bc_ HB.out hw310_2 :), (bc_ HB.out hw310_3 :), (bc_ HB.out hw310_4 :), (bc_ HB.out hw310_5 :), (bc_ HB.out hw310_6 :), (bc_ HB.out hw310_7 :), (bc_ HB.out hw310_8 :), (bc_ HB.out hw316_0 :), (bc_ HB.out hw316_1 :), (bc_ HB.out hw316_2 :), (bc_ HB.out hw316_3 :), (bc_ HB.out hw316_4 :), (bc_ HB.out hw316_5 :), (bc_ HB.out hw316_6 :), (bc_ HB.out hw316_7 :), (bc_ HB.out hw316_8 :)⟩ (fun hHeld => ?_); refine with_tabW remontoirlaw18_stays.tab6 remontoirlaw18_stays.bits6 (fun HT_ HW_ => ?_)
          generalize wr.drew = w28 at HB HR295_3 HR295_6 HR296_3 HR296_6 HR297_3 HR297_6 HR303_3 HR303_6 HR310_3 HR310_6 HR316_3 HR316_6 hx295_0 hx295_1 hx295_2 hx295_3 hx295_4 hx295_5 hx295_6 hx295_7 hx295_8 hx296_0 hx296_1 hx296_2 hx296_3 hx296_4 hx296_5 hx296_6 hx296_7 hx296_8 hx297_0 hx297_1 hx297_2 hx297_3 hx297_4 hx297_5 hx297_6 hx297_7 hx297_8 hx303_0 hx303_1 hx303_2 hx303_3 hx303_4 hx303_5 hx303_6 hx303_7 hx303_8 hx310_0 hx310_1 hx310_2 hx310_3 hx310_4 hx310_5 hx310_6 hx310_7 hx310_8 hx316_0 hx316_1 hx316_2 hx316_3 hx316_4 hx316_5 hx316_6 hx316_7 hx316_8 hHeld ⊢
          refine pa_ 0 17 (bm 43 0x1) HT_ (h := ?_)
          refine pa_ 1 18 (bm 43 0x3) HT_ (h := ?_)
          refine pa_ 2 19 (bm 43 0x7) HT_ (h := ?_)
          refine pa_ 3 20 (bm 43 0xf) HT_ (h := ?_)
          refine pa_ 5 22 (bm 43 0x2f) HT_ (h := ?_)
          refine pa_ 6 23 (bm 43 0x6f) HT_ (h := ?_)
          refine pa_ 7 24 (bm 43 0xef) HT_ (h := ?_)
          refine pa_ 8 25 (bm 43 0x1ef) HT_ (h := ?_)
          refine take_ (i := 4) (N := some 21) (v := ?_) (a' := ?_) (bm 43 0x1ff) rfl rfl (take_ofW HT_.out HW_.out (by kernel_rfl)) (fun _ _ _ h => h) (Or.inl ⟨by rfl, ?_⟩) hHeld ?_ ?_
          rotate_left
          ·
           rintro w' ⟨s0, s1, s2, s3, s4, s5, s6, s7, s8, s9, s10, s11, s12, s13, s14, s15, s16, s17, s18, s19, s20, s21, s22, s23, s24, s25, s26, s27, s28, s29, s30, s31, s32, s33, s34, s35, s36, s37, s38, s39, s40, s41, s42, s43, s44, s45, s46, s47, s48, s49, s50, s51, s52, s53⟩
           go_simp
           with_reducible rfl
          rotate_left
          ·
           simp only [Act.put, sbA, sbB, sbC, i64_w, i32_w]
           rfl
          refine take_ (i := 9) (N := some 26) (v := ?_) (a' := ?_) (bm 43 0x3ff) rfl rfl (take_ofW HT_.out HW_.out (by kernel_rfl)) (fun _ _ _ h => h) (Or.inl ⟨by rfl, ?_⟩) hHeld ?_ ?_
          rotate_left
          ·
           rintro w' ⟨s0, s1, s2, s3, s4, s5, s6, s7, s8, s9, s10, s11, s12, s13, s14, s15, s16, s17, s18, s19, s20, s21, s22, s23, s24, s25, s26, s27, s28, s29, s30, s31, s32, s33, s34, s35, s36, s37, s38, s39, s40, s41, s42, s43, s44, s45, s46, s47, s48, s49, s50, s51, s52, s53⟩
           go_simp
           with_reducible rfl
          rotate_left
          ·
           simp only [Act.put, sbA, sbB, sbC, i64_w, i32_w]
           rfl
          refine pa_ 10 27 (bm 43 0x7ff) HT_ (h := ?_)
          refine pa_ 11 28 (bm 43 0xfff) HT_ (h := ?_)
          refine pa_ 12 29 (bm 43 0x1fff) HT_ (h := ?_)
          refine pa_ 13 30 (bm 43 0x3fff) HT_ (h := ?_)
          refine pa_ 14 31 (bm 43 0x7fff) HT_ (h := ?_)
          refine pa_ 15 32 (bm 43 0xffff) HT_ (h := ?_)
          refine pa_ 18 35 (bm 43 0x4ffff) HT_ (h := ?_)
          refine pa_ 19 36 (bm 43 0xcffff) HT_ (h := ?_)
          refine pa_ 20 37 (bm 43 0x1cffff) HT_ (h := ?_)
          refine pa_ 21 38 (bm 43 0x3cffff) HT_ (h := ?_)
          refine take_ (i := 16) (N := some 33) (v := ?_) (a' := ?_) (bm 43 0x3dffff) rfl rfl (take_ofW HT_.out HW_.out (by kernel_rfl)) (fun _ _ _ h => h) (Or.inl ⟨by rfl, ?_⟩) hHeld ?_ ?_
          rotate_left
          ·
           rintro w' ⟨s0, s1, s2, s3, s4, s5, s6, s7, s8, s9, s10, s11, s12, s13, s14, s15, s16, s17, s18, s19, s20, s21, s22, s23, s24, s25, s26, s27, s28, s29, s30, s31, s32, s33, s34, s35, s36, s37, s38, s39, s40, s41, s42, s43, s44, s45, s46, s47, s48, s49, s50, s51, s52, s53⟩
           go_simp
           with_reducible rfl
          rotate_left
          ·
           simp only [Act.put, sbA, sbB, sbC, i64_w, i32_w]
           rfl
          refine take_ (i := 22) (N := some 39) (v := ?_) (a' := ?_) (bm 43 0x7dffff) rfl rfl (take_ofW HT_.out HW_.out (by kernel_rfl)) (fun _ _ _ h => h) (Or.inl ⟨by rfl, ?_⟩) hHeld ?_ ?_
          rotate_left
          ·
           rintro w' ⟨s0, s1, s2, s3, s4, s5, s6, s7, s8, s9, s10, s11, s12, s13, s14, s15, s16, s17, s18, s19, s20, s21, s22, s23, s24, s25, s26, s27, s28, s29, s30, s31, s32, s33, s34, s35, s36, s37, s38, s39, s40, s41, s42, s43, s44, s45, s46, s47, s48, s49, s50, s51, s52, s53⟩
           go_simp
           with_reducible rfl
          rotate_left
          ·
           simp only [Act.put, sbA, sbB, sbC, i64_w, i32_w]
           rfl
          refine one_ (i := 17) (N := some 34) (bm 43 0x7fffff) rfl rfl (one_of HT_.out (by kernel_rfl)) (by decide) (fun K hK => ?_)
          refine goes_ Try.func15 (by kernel_rfl) rfl #[.agg #[.slice A295_3 ((rd_T76 l0 x5_1).f1.f0).length c295_3, .int .i64 ((rd_T76 l0 x5_1).f1.f1), .int .i64 ((rd_T76 l0 x5_1).f1.f2)]] (by rfl) rfl rfl (by (try simp only [List.map_toArray, List.map_cons, List.map_nil]); rfl) ?_
          with_reducible refine (remontoirlaw03_As.calls (fun k_ => k_ < w.heap.size) _ _ ((rd_T76 l0 x5_1).f1.f0) ((rd_T76 l0 x5_1).f1.f1) ((rd_T76 l0 x5_1).f1.f2) t298 t301 t302 _ ?side1 A9.out).mono ?_
          (case side1 => exact Kd.V_mk HC297_3.out (Kd.F_below (Kd.C_F (Kd.heap_int .i64) HR297_3.out) HB.out))
          rintro e w29 ⟨v299, rfl, ho0, hb⟩
          refine ⟨_, rfl, ?_⟩
          have n0_ := Aside0.mk (Kd.V_lower (Kd.V_mono (ok' := fun k_ => True) ho0 (fun k_ hk_ => trivial)) (below_size HB.out))
          have HO300 := n0_; clear n0_; replace HB := hb_ HB hb
          (try clear hb)
          (try clear hb2)
          (try clear hk)
          (try clear hi)
          (try clear ho0)
          refine hK.out _ _ ⟨bc_ HB.out hw295_0, bc_ HB.out hw295_1, bc_ HB.out hw295_2, bc_ HB.out hw295_3, bc_ HB.out hw295_4, bc_ HB.out hw295_5, bc_ HB.out hw295_6, bc_ HB.out hw295_7, bc_ HB.out hw295_8, bc_ HB.out hw296_0, bc_ HB.out hw296_1, bc_ HB.out hw296_2, bc_ HB.out hw296_3, bc_ HB.out hw296_4, bc_ HB.out hw296_5, bc_ HB.out hw296_6, bc_ HB.out hw296_7, bc_ HB.out hw296_8, bc_ HB.out hw297_0, bc_ HB.out hw297_1, bc_ HB.out hw297_2, bc_ HB.out hw297_3, bc_ HB.out hw297_4, bc_ HB.out hw297_5, bc_ HB.out hw297_6, bc_ HB.out hw297_7, bc_ HB.out hw297_8, bc_ HB.out hw303_0, bc_ HB.out hw303_1, bc_ HB.out hw303_2, bc_ HB.out hw303_3, bc_ HB.out hw303_4, bc_ HB.out hw303_5, bc_ HB.out hw303_6, bc_ HB.out hw303_7, bc_ HB.out hw303_8, bc_ HB.out hw310_0, bc_ HB.out hw310_1, bc_ HB.out hw310_2, bc_ HB.out hw310_3, bc_ HB.out hw310_4, bc_ HB.out hw310_5, bc_ HB.out hw310_6, bc_ HB.out hw310_7, bc_ HB.out hw310_8, bc_ HB.out hw316_0, bc_ HB.out hw316_1, bc_ HB.out hw316_2, bc_ HB.out hw316_3, bc_ HB.out hw316_4, bc_ HB.out hw316_5, bc_ HB.out hw316_6, bc_ HB.out hw316_7, bc_ HB.out hw316_8⟩ (fun hHeld => ?_)
          clear hK K
          refine nm_ 34 (h := ?_)
          refine one_ (i := 23) (N := some 40) (bm 43 0xffffff) rfl rfl (one_of HT_.out (by kernel_rfl)) (by decide) (fun K hK => ?_)
          refine goes_ Try.func15 (by kernel_rfl) rfl #[.agg #[.slice A296_3 ((rd_T76 l1 x5_1).f1.f0).length c296_3, .int .i64 ((rd_T76 l1 x5_1).f1.f1), .int .i64 ((rd_T76 l1 x5_1).f1.f2)]] (by rfl) rfl rfl (by (try simp only [List.map_toArray, List.map_cons, List.map_nil]); rfl) ?_
          with_reducible refine (remontoirlaw03_As.calls (fun k_ => k_ < w.heap.size) _ _ ((rd_T76 l1 x5_1).f1.f0) ((rd_T76 l1 x5_1).f1.f1) ((rd_T76 l1 x5_1).f1.f2) t304 t307 t308 _ ?side1 A10.out).mono ?_
          (case side1 => exact Kd.V_mk HC303_3.out (Kd.F_below (Kd.C_F (Kd.heap_int .i64) HR303_3.out) HB.out))
          rintro e w30 ⟨v305, rfl, ho0, hb⟩
          refine ⟨_, rfl, ?_⟩
          have n1_ := Aside0.mk (Kd.V_lower (Kd.V_mono (ok' := fun k_ => True) ho0 (fun k_ hk_ => trivial)) (below_size HB.out))
          have HO306 := n1_; clear n1_; replace HO300 := vb_ HO300 hb; replace HB := hb_ HB hb
          (try clear hb)
          (try clear hb2)
          (try clear hk)
          (try clear hi)
          (try clear ho0)
          obtain ⟨Ao31, co31, eo31⟩ := Kd.V_slice HO300.out
          ((subst eo31))
          obtain ⟨Ao32, co32, eo32⟩ := Kd.V_slice HO306.out
          ((subst eo32))
          refine hK.out _ _ ⟨bc_ HB.out hw295_0, bc_ HB.out hw295_1, bc_ HB.out hw295_2, bc_ HB.out hw295_3, bc_ HB.out hw295_4, bc_ HB.out hw295_5, bc_ HB.out hw295_6, bc_ HB.out hw295_7, bc_ HB.out hw295_8, bc_ HB.out hw296_0, bc_ HB.out hw296_1, bc_ HB.out hw296_2, bc_ HB.out hw296_3, bc_ HB.out hw296_4, bc_ HB.out hw296_5, bc_ HB.out hw296_6, bc_ HB.out hw296_7, bc_ HB.out hw296_8, bc_ HB.out hw297_0, bc_ HB.out hw297_1, bc_ HB.out hw297_2, bc_ HB.out hw297_3, bc_ HB.out hw297_4, bc_ HB.out hw297_5, bc_ HB.out hw297_6, bc_ HB.out hw297_7, bc_ HB.out hw297_8, bc_ HB.out hw303_0, bc_ HB.out hw303_1, bc_ HB.out hw303_2, bc_ HB.out hw303_3, bc_ HB.out hw303_4, bc_ HB.out hw303_5, bc_ HB.out hw303_6, bc_ HB.out hw303_7, bc_ HB.out hw303_8, bc_ HB.out hw310_0, bc_ HB.out hw310_1, bc_ HB.out hw310_2, bc_ HB.out hw310_3, bc_ HB.out hw310_4, bc_ HB.out hw310_5, bc_ HB.out hw310_6, bc_ HB.out hw310_7, bc_ HB.out hw310_8, bc_ HB.out hw316_0, bc_ HB.out hw316_1, bc_ HB.out hw316_2, bc_ HB.out hw316_3, bc_ HB.out hw316_4, bc_ HB.out hw316_5, bc_ HB.out hw316_6, bc_ HB.out hw316_7, bc_ HB.out hw316_8⟩ (fun hHeld => ?_)
          clear hK K
          refine nm_ 40 (h := ?_)
          refine one_ (i := 24) (N := some 41) (bm 43 0x1ffffff) rfl rfl (one_of HT_.out (by kernel_rfl)) (by decide) (fun K hK => ?_)
          refine goes_ Try.func20 (by kernel_rfl) rfl #[.agg #[.slice Ao31 t298.length co31, .int .i64 t301, .int .i64 t302], .agg #[.slice Ao32 t304.length co32, .int .i64 t307, .int .i64 t308]] (by rfl) rfl rfl (by (try simp only [List.map_toArray, List.map_cons, List.map_nil]); rfl) ?_
          with_reducible refine (remontoirref03_Same.calls k1 _ _ t298 t301 t302 _ _ t304 t307 t308 true _ ?side1 ?side2 ?side3 ?side4 A11.out).mono ?_
          (case side1 => repeat ((exact (Kd.V_reads' HO300.out).2.2)))
          (case side2 => exact (Kd.V_reads' HO300.out).2.1)
          (case side3 => repeat ((exact (Kd.V_reads' HO306.out).2.2)))
          (case side4 => exact (Kd.V_reads' HO306.out).2.1)
          rintro e w33 ⟨rfl, hb⟩
          refine ⟨_, rfl, ?_⟩
          replace HO300 := vb_ HO300 hb; replace HO306 := vb_ HO306 hb; replace HB := hb_ HB hb
          (try clear hb)
          (try clear hb2)
          (try clear hk)
          (try clear hi)
          refine hK.out _ _ ⟨bc_ HB.out hw295_0, bc_ HB.out hw295_1, bc_ HB.out hw295_2, bc_ HB.out hw295_3, bc_ HB.out hw295_4, bc_ HB.out hw295_5, bc_ HB.out hw295_6, bc_ HB.out hw295_7, bc_ HB.out hw295_8, bc_ HB.out hw296_0, bc_ HB.out hw296_1, bc_ HB.out hw296_2, bc_ HB.out hw296_3, bc_ HB.out hw296_4, bc_ HB.out hw296_5, bc_ HB.out hw296_6, bc_ HB.out hw296_7, bc_ HB.out hw296_8, bc_ HB.out hw297_0, bc_ HB.out hw297_1, bc_ HB.out hw297_2, bc_ HB.out hw297_3, bc_ HB.out hw297_4, bc_ HB.out hw297_5, bc_ HB.out hw297_6, bc_ HB.out hw297_7, bc_ HB.out hw297_8, bc_ HB.out hw303_0, bc_ HB.out hw303_1, bc_ HB.out hw303_2, bc_ HB.out hw303_3, bc_ HB.out hw303_4, bc_ HB.out hw303_5, bc_ HB.out hw303_6, bc_ HB.out hw303_7, bc_ HB.out hw303_8, bc_ HB.out hw310_0, bc_ HB.out hw310_1, bc_ HB.out hw310_2, bc_ HB.out hw310_3, bc_ HB.out hw310_4, bc_ HB.out hw310_5, bc_ HB.out hw310_6, bc_ HB.out hw310_7, bc_ HB.out hw310_8, bc_ HB.out hw316_0, bc_ HB.out hw316_1, bc_ HB.out hw316_2, bc_ HB.out hw316_3, bc_ HB.out hw316_4, bc_ HB.out hw316_5, bc_ HB.out hw316_6, bc_ HB.out hw316_7, bc_ HB.out hw316_8⟩ (fun hHeld => ?_)
          clear hK K
          refine nm_ 41 (h := ?_)
          refine pa_ 25 42 (bm 43 0x3ffffff) HT_ (h := ?_)
          refine pa_ 26 43 (bm 43 0x7ffffff) HT_ (h := ?_)
          refine pa_ 27 44 (bm 43 0xfffffff) HT_ (h := ?_)
          refine pa_ 28 45 (bm 43 0x1fffffff) HT_ (h := ?_)
          refine pa_ 29 46 (bm 43 0x3fffffff) HT_ (h := ?_)
          refine pa_ 30 47 (bm 43 0x7fffffff) HT_ (h := ?_)
          refine pa_ 31 48 (bm 43 0xffffffff) HT_ (h := ?_)
          refine pa_ 34 51 (bm 43 0x4ffffffff) HT_ (h := ?_)
          refine pa_ 35 52 (bm 43 0xcffffffff) HT_ (h := ?_)
          refine pa_ 36 53 (bm 43 0x1cffffffff) HT_ (h := ?_)
          refine pa_ 37 54 (bm 43 0x3cffffffff) HT_ (h := ?_)
          refine take_ (i := 32) (N := some 49) (v := ?_) (a' := ?_) (bm 43 0x3dffffffff) rfl rfl (take_ofW HT_.out HW_.out (by kernel_rfl)) (fun _ _ _ h => h) (Or.inl ⟨by rfl, ?_⟩) hHeld ?_ ?_
          rotate_left
          ·
           rintro w' ⟨s0, s1, s2, s3, s4, s5, s6, s7, s8, s9, s10, s11, s12, s13, s14, s15, s16, s17, s18, s19, s20, s21, s22, s23, s24, s25, s26, s27, s28, s29, s30, s31, s32, s33, s34, s35, s36, s37, s38, s39, s40, s41, s42, s43, s44, s45, s46, s47, s48, s49, s50, s51, s52, s53⟩
           go_simp
           with_reducible rfl
          rotate_left
          ·
           simp only [Act.put, sbA, sbB, sbC, i64_w, i32_w]
           rfl
          refine take_ (i := 38) (N := some 55) (v := ?_) (a' := ?_) (bm 43 0x7dffffffff) rfl rfl (take_ofW HT_.out HW_.out (by kernel_rfl)) (fun _ _ _ h => h) (Or.inl ⟨by rfl, ?_⟩) hHeld ?_ ?_
          rotate_left
          ·
           rintro w' ⟨s0, s1, s2, s3, s4, s5, s6, s7, s8, s9, s10, s11, s12, s13, s14, s15, s16, s17, s18, s19, s20, s21, s22, s23, s24, s25, s26, s27, s28, s29, s30, s31, s32, s33, s34, s35, s36, s37, s38, s39, s40, s41, s42, s43, s44, s45, s46, s47, s48, s49, s50, s51, s52, s53⟩
           go_simp
           with_reducible rfl
          rotate_left
          ·
           simp only [Act.put, sbA, sbB, sbC, i64_w, i32_w]
           rfl
          refine one_ (i := 33) (N := some 50) (bm 43 0x7fffffffff) rfl rfl (one_of HT_.out (by kernel_rfl)) (by decide) (fun K hK => ?_)
          refine goes_ Try.func15 (by kernel_rfl) rfl #[.agg #[.slice A295_6 ((rd_T76 l0 x5_1).f2.f0).length c295_6, .int .i64 ((rd_T76 l0 x5_1).f2.f1), .int .i64 ((rd_T76 l0 x5_1).f2.f2)]] (by rfl) rfl rfl (by (try simp only [List.map_toArray, List.map_cons, List.map_nil]); rfl) ?_
          with_reducible refine (remontoirlaw03_As.calls (fun k_ => k_ < w.heap.size) _ _ ((rd_T76 l0 x5_1).f2.f0) ((rd_T76 l0 x5_1).f2.f1) ((rd_T76 l0 x5_1).f2.f2) t311 t314 t315 _ ?side1 A13.out).mono ?_
          (case side1 => exact Kd.V_mk HC310_6.out (Kd.F_below (Kd.C_F (Kd.heap_int .i64) HR310_6.out) HB.out))
          rintro e w34 ⟨v312, rfl, ho0, hb⟩
          refine ⟨_, rfl, ?_⟩
          have n2_ := Aside0.mk (Kd.V_lower (Kd.V_mono (ok' := fun k_ => True) ho0 (fun k_ hk_ => trivial)) (below_size HB.out))
          have HO313 := n2_; clear n2_; replace HO300 := vb_ HO300 hb; replace HO306 := vb_ HO306 hb; replace HB := hb_ HB hb
          (try clear hb)
          (try clear hb2)
          (try clear hk)
          (try clear hi)
          (try clear ho0)
          refine hK.out _ _ ⟨bc_ HB.out hw295_0, bc_ HB.out hw295_1, bc_ HB.out hw295_2, bc_ HB.out hw295_3, bc_ HB.out hw295_4, bc_ HB.out hw295_5, bc_ HB.out hw295_6, bc_ HB.out hw295_7, bc_ HB.out hw295_8, bc_ HB.out hw296_0, bc_ HB.out hw296_1, bc_ HB.out hw296_2, bc_ HB.out hw296_3, bc_ HB.out hw296_4, bc_ HB.out hw296_5, bc_ HB.out hw296_6, bc_ HB.out hw296_7, bc_ HB.out hw296_8, bc_ HB.out hw297_0, bc_ HB.out hw297_1, bc_ HB.out hw297_2, bc_ HB.out hw297_3, bc_ HB.out hw297_4, bc_ HB.out hw297_5, bc_ HB.out hw297_6, bc_ HB.out hw297_7, bc_ HB.out hw297_8, bc_ HB.out hw303_0, bc_ HB.out hw303_1, bc_ HB.out hw303_2, bc_ HB.out hw303_3, bc_ HB.out hw303_4, bc_ HB.out hw303_5, bc_ HB.out hw303_6, bc_ HB.out hw303_7, bc_ HB.out hw303_8, bc_ HB.out hw310_0, bc_ HB.out hw310_1, bc_ HB.out hw310_2, bc_ HB.out hw310_3, bc_ HB.out hw310_4, bc_ HB.out hw310_5, bc_ HB.out hw310_6, bc_ HB.out hw310_7, bc_ HB.out hw310_8, bc_ HB.out hw316_0, bc_ HB.out hw316_1, bc_ HB.out hw316_2, bc_ HB.out hw316_3, bc_ HB.out hw316_4, bc_ HB.out hw316_5, bc_ HB.out hw316_6, bc_ HB.out hw316_7, bc_ HB.out hw316_8⟩ (fun hHeld => ?_)
          clear hK K
          refine nm_ 50 (h := ?_)
          refine one_ (i := 39) (N := some 56) (bm 43 0xffffffffff) rfl rfl (one_of HT_.out (by kernel_rfl)) (by decide) (fun K hK => ?_)
          refine goes_ Try.func15 (by kernel_rfl) rfl #[.agg #[.slice A296_6 ((rd_T76 l1 x5_1).f2.f0).length c296_6, .int .i64 ((rd_T76 l1 x5_1).f2.f1), .int .i64 ((rd_T76 l1 x5_1).f2.f2)]] (by rfl) rfl rfl (by (try simp only [List.map_toArray, List.map_cons, List.map_nil]); rfl) ?_
          with_reducible refine (remontoirlaw03_As.calls (fun k_ => k_ < w.heap.size) _ _ ((rd_T76 l1 x5_1).f2.f0) ((rd_T76 l1 x5_1).f2.f1) ((rd_T76 l1 x5_1).f2.f2) t317 t320 t321 _ ?side1 A14.out).mono ?_
          (case side1 => exact Kd.V_mk HC316_6.out (Kd.F_below (Kd.C_F (Kd.heap_int .i64) HR316_6.out) HB.out))
          rintro e w35 ⟨v318, rfl, ho0, hb⟩
          refine ⟨_, rfl, ?_⟩
          have n3_ := Aside0.mk (Kd.V_lower (Kd.V_mono (ok' := fun k_ => True) ho0 (fun k_ hk_ => trivial)) (below_size HB.out))
          have HO319 := n3_; clear n3_; replace HO300 := vb_ HO300 hb; replace HO306 := vb_ HO306 hb; replace HO313 := vb_ HO313 hb; replace HB := hb_ HB hb
          (try clear hb)
          (try clear hb2)
          (try clear hk)
          (try clear hi)
          (try clear ho0)
          obtain ⟨Ao36, co36, eo36⟩ := Kd.V_slice HO313.out
          ((subst eo36))
          obtain ⟨Ao37, co37, eo37⟩ := Kd.V_slice HO319.out
          ((subst eo37))
          refine hK.out _ _ ⟨bc_ HB.out hw295_0, bc_ HB.out hw295_1, bc_ HB.out hw295_2, bc_ HB.out hw295_3, bc_ HB.out hw295_4, bc_ HB.out hw295_5, bc_ HB.out hw295_6, bc_ HB.out hw295_7, bc_ HB.out hw295_8, bc_ HB.out hw296_0, bc_ HB.out hw296_1, bc_ HB.out hw296_2, bc_ HB.out hw296_3, bc_ HB.out hw296_4, bc_ HB.out hw296_5, bc_ HB.out hw296_6, bc_ HB.out hw296_7, bc_ HB.out hw296_8, bc_ HB.out hw297_0, bc_ HB.out hw297_1, bc_ HB.out hw297_2, bc_ HB.out hw297_3, bc_ HB.out hw297_4, bc_ HB.out hw297_5, bc_ HB.out hw297_6, bc_ HB.out hw297_7, bc_ HB.out hw297_8, bc_ HB.out hw303_0, bc_ HB.out hw303_1, bc_ HB.out hw303_2, bc_ HB.out hw303_3, bc_ HB.out hw303_4, bc_ HB.out hw303_5, bc_ HB.out hw303_6, bc_ HB.out hw303_7, bc_ HB.out hw303_8, bc_ HB.out hw310_0, bc_ HB.out hw310_1, bc_ HB.out hw310_2, bc_ HB.out hw310_3, bc_ HB.out hw310_4, bc_ HB.out hw310_5, bc_ HB.out hw310_6, bc_ HB.out hw310_7, bc_ HB.out hw310_8, bc_ HB.out hw316_0, bc_ HB.out hw316_1, bc_ HB.out hw316_2, bc_ HB.out hw316_3, bc_ HB.out hw316_4, bc_ HB.out hw316_5, bc_ HB.out hw316_6, bc_ HB.out hw316_7, bc_ HB.out hw316_8⟩ (fun hHeld => ?_)
          clear hK K
          refine nm_ 56 (h := ?_)
          refine one_ (i := 40) (N := some 57) (bm 43 0x1ffffffffff) rfl rfl (one_of HT_.out (by kernel_rfl)) (by decide) (fun K hK => ?_)
          refine goes_ Try.func20 (by kernel_rfl) rfl #[.agg #[.slice Ao36 t311.length co36, .int .i64 t314, .int .i64 t315], .agg #[.slice Ao37 t317.length co37, .int .i64 t320, .int .i64 t321]] (by rfl) rfl rfl (by (try simp only [List.map_toArray, List.map_cons, List.map_nil]); rfl) ?_
          with_reducible refine (remontoirref03_Same.calls k1 _ _ t311 t314 t315 _ _ t317 t320 t321 false _ ?side1 ?side2 ?side3 ?side4 A15.out).mono ?_
          (case side1 => repeat ((exact (Kd.V_reads' HO313.out).2.2)))
          (case side2 => exact (Kd.V_reads' HO313.out).2.1)
          (case side3 => repeat ((exact (Kd.V_reads' HO319.out).2.2)))
          (case side4 => exact (Kd.V_reads' HO319.out).2.1)
          rintro e w38 ⟨rfl, hb⟩
          refine ⟨_, rfl, ?_⟩
          replace HO300 := vb_ HO300 hb; replace HO306 := vb_ HO306 hb; replace HO313 := vb_ HO313 hb; replace HO319 := vb_ HO319 hb; replace HB := hb_ HB hb
          (try clear hb)
          (try clear hb2)
          (try clear hk)
          (try clear hi)
          refine hK.out _ _ ⟨bc_ HB.out hw295_0, bc_ HB.out hw295_1, bc_ HB.out hw295_2, bc_ HB.out hw295_3, bc_ HB.out hw295_4, bc_ HB.out hw295_5, bc_ HB.out hw295_6, bc_ HB.out hw295_7, bc_ HB.out hw295_8, bc_ HB.out hw296_0, bc_ HB.out hw296_1, bc_ HB.out hw296_2, bc_ HB.out hw296_3, bc_ HB.out hw296_4, bc_ HB.out hw296_5, bc_ HB.out hw296_6, bc_ HB.out hw296_7, bc_ HB.out hw296_8, bc_ HB.out hw297_0, bc_ HB.out hw297_1, bc_ HB.out hw297_2, bc_ HB.out hw297_3, bc_ HB.out hw297_4, bc_ HB.out hw297_5, bc_ HB.out hw297_6, bc_ HB.out hw297_7, bc_ HB.out hw297_8, bc_ HB.out hw303_0, bc_ HB.out hw303_1, bc_ HB.out hw303_2, bc_ HB.out hw303_3, bc_ HB.out hw303_4, bc_ HB.out hw303_5, bc_ HB.out hw303_6, bc_ HB.out hw303_7, bc_ HB.out hw303_8, bc_ HB.out hw310_0, bc_ HB.out hw310_1, bc_ HB.out hw310_2, bc_ HB.out hw310_3, bc_ HB.out hw310_4, bc_ HB.out hw310_5, bc_ HB.out hw310_6, bc_ HB.out hw310_7, bc_ HB.out hw310_8, bc_ HB.out hw316_0, bc_ HB.out hw316_1, bc_ HB.out hw316_2, bc_ HB.out hw316_3, bc_ HB.out hw316_4, bc_ HB.out hw316_5, bc_ HB.out hw316_6, bc_ HB.out hw316_7, bc_ HB.out hw316_8⟩ (fun hHeld => ?_)
          clear hK K
          refine nm_ 57 (h := ?_)
          refine pa_ 41 58 (bm 43 0x3ffffffffff) HT_ (h := ?_)
          refine pa_ 42 59 (bm 43 0x7ffffffffff) HT_ (h := ?_)
          refine done_ (done_of HT_.out (by kernel_rfl)) ?_
          try go_wp2
          go_ret
          exact ⟨by rfl, by repeat ((with_reducible (exact HB.out)))⟩
        ·
         replace c12 := Bool.eq_false_iff.mpr c12
         subst c12
         have H1 : (some false) = some r := by rw [if_neg (show ¬ (false = true) by decide)] at H; exact H
         clear H
         have H := H1
         clear H1
         obtain rfl := Option.some.inj H
         try go_wp2
         have n0_ := Aside0.mk (below_drew1 HB.out)
         clear HB; have HB := n0_; clear n0_
         have p295 : 0 ≤ (x5_1 : Int) := of_decide_eq_true (by (with_reducible assumption))
         have q295 : x5_1 < (l0.length : Int) := of_decide_eq_true (by (with_reducible assumption))
         obtain ⟨ad295, A295_3, c295_3, A295_6, c295_6, e295, hx295_0, hx295_1, hx295_2, hx295_3, hx295_4, hx295_5, hx295_6, hx295_7, hx295_8, hl295_3, hi295_3, hl295_6, hi295_6⟩ := at_T76 HR0.out x5_1 p295 q295
         have hw295_8 := hx295_8
         have hw295_7 := hx295_7
         have hw295_6 := hx295_6
         have hw295_5 := hx295_5
         have hw295_4 := hx295_4
         have hw295_3 := hx295_3
         have hw295_2 := hx295_2
         have hw295_1 := hx295_1
         have hw295_0 := hx295_0
         cases e295
         replace hx295_0 := bc_ HB.out hx295_0
         replace hx295_1 := bc_ HB.out hx295_1
         replace hx295_2 := bc_ HB.out hx295_2
         replace hx295_3 := bc_ HB.out hx295_3
         replace hx295_4 := bc_ HB.out hx295_4
         replace hx295_5 := bc_ HB.out hx295_5
         replace hx295_6 := bc_ HB.out hx295_6
         replace hx295_7 := bc_ HB.out hx295_7
         replace hx295_8 := bc_ HB.out hx295_8
         have HR295_3 := Aside0.mk hi295_3
         have HC295_3 := Aside0.mk hl295_3
         clear hi295_3 hl295_3
         have HR295_6 := Aside0.mk hi295_6
         have HC295_6 := Aside0.mk hl295_6
         clear hi295_6 hl295_6
         replace p295 := eq_true p295
         replace q295 := eq_true q295
         have p296 : 0 ≤ (x5_1 : Int) := of_decide_eq_true (by (with_reducible assumption))
         have q296 : x5_1 < (l1.length : Int) := of_decide_eq_true (by (with_reducible assumption))
         obtain ⟨ad296, A296_3, c296_3, A296_6, c296_6, e296, hx296_0, hx296_1, hx296_2, hx296_3, hx296_4, hx296_5, hx296_6, hx296_7, hx296_8, hl296_3, hi296_3, hl296_6, hi296_6⟩ := at_T76 HR1.out x5_1 p296 q296
         have hw296_8 := hx296_8
         have hw296_7 := hx296_7
         have hw296_6 := hx296_6
         have hw296_5 := hx296_5
         have hw296_4 := hx296_4
         have hw296_3 := hx296_3
         have hw296_2 := hx296_2
         have hw296_1 := hx296_1
         have hw296_0 := hx296_0
         cases e296
         replace hx296_0 := bc_ HB.out hx296_0
         replace hx296_1 := bc_ HB.out hx296_1
         replace hx296_2 := bc_ HB.out hx296_2
         replace hx296_3 := bc_ HB.out hx296_3
         replace hx296_4 := bc_ HB.out hx296_4
         replace hx296_5 := bc_ HB.out hx296_5
         replace hx296_6 := bc_ HB.out hx296_6
         replace hx296_7 := bc_ HB.out hx296_7
         replace hx296_8 := bc_ HB.out hx296_8
         have HR296_3 := Aside0.mk hi296_3
         have HC296_3 := Aside0.mk hl296_3
         clear hi296_3 hl296_3
         have HR296_6 := Aside0.mk hi296_6
         have HC296_6 := Aside0.mk hl296_6
         clear hi296_6 hl296_6
         replace p296 := eq_true p296
         replace q296 := eq_true q296
         have p297 : 0 ≤ (x5_1 : Int) := of_decide_eq_true (by (with_reducible assumption))
         have q297 : x5_1 < (l0.length : Int) := of_decide_eq_true (by (with_reducible assumption))
         obtain ⟨ad297, A297_3, c297_3, A297_6, c297_6, e297, hx297_0, hx297_1, hx297_2, hx297_3, hx297_4, hx297_5, hx297_6, hx297_7, hx297_8, hl297_3, hi297_3, hl297_6, hi297_6⟩ := at_T76 HR0.out x5_1 p297 q297
         have hw297_8 := hx297_8
         have hw297_7 := hx297_7
         have hw297_6 := hx297_6
         have hw297_5 := hx297_5
         have hw297_4 := hx297_4
         have hw297_3 := hx297_3
         have hw297_2 := hx297_2
         have hw297_1 := hx297_1
         have hw297_0 := hx297_0
         obtain rfl : ad295 = ad297 := (by injection e297)
         replace hx297_0 := bc_ HB.out hx297_0
         replace hx297_1 := bc_ HB.out hx297_1
         replace hx297_2 := bc_ HB.out hx297_2
         replace hx297_3 := bc_ HB.out hx297_3
         replace hx297_4 := bc_ HB.out hx297_4
         replace hx297_5 := bc_ HB.out hx297_5
         replace hx297_6 := bc_ HB.out hx297_6
         replace hx297_7 := bc_ HB.out hx297_7
         replace hx297_8 := bc_ HB.out hx297_8
         have HR297_3 := Aside0.mk hi297_3
         have HC297_3 := Aside0.mk hl297_3
         clear hi297_3 hl297_3
         have HR297_6 := Aside0.mk hi297_6
         have HC297_6 := Aside0.mk hl297_6
         clear hi297_6 hl297_6
         replace p297 := eq_true p297
         replace q297 := eq_true q297
         have ea_ := Option.some.inj (hx295_3.symm.trans hx297_3)
         injection ea_ with ea_ en_ ec_
         subst ea_
         subst ec_
         clear en_
         have ea_ := Option.some.inj (hx295_6.symm.trans hx297_6)
         injection ea_ with ea_ en_ ec_
         subst ea_
         subst ec_
         clear en_
         have p303 : 0 ≤ (x5_1 : Int) := of_decide_eq_true (by (with_reducible assumption))
         have q303 : x5_1 < (l1.length : Int) := of_decide_eq_true (by (with_reducible assumption))
         obtain ⟨ad303, A303_3, c303_3, A303_6, c303_6, e303, hx303_0, hx303_1, hx303_2, hx303_3, hx303_4, hx303_5, hx303_6, hx303_7, hx303_8, hl303_3, hi303_3, hl303_6, hi303_6⟩ := at_T76 HR1.out x5_1 p303 q303
         have hw303_8 := hx303_8
         have hw303_7 := hx303_7
         have hw303_6 := hx303_6
         have hw303_5 := hx303_5
         have hw303_4 := hx303_4
         have hw303_3 := hx303_3
         have hw303_2 := hx303_2
         have hw303_1 := hx303_1
         have hw303_0 := hx303_0
         obtain rfl : ad296 = ad303 := (by injection e303)
         replace hx303_0 := bc_ HB.out hx303_0
         replace hx303_1 := bc_ HB.out hx303_1
         replace hx303_2 := bc_ HB.out hx303_2
         replace hx303_3 := bc_ HB.out hx303_3
         replace hx303_4 := bc_ HB.out hx303_4
         replace hx303_5 := bc_ HB.out hx303_5
         replace hx303_6 := bc_ HB.out hx303_6
         replace hx303_7 := bc_ HB.out hx303_7
         replace hx303_8 := bc_ HB.out hx303_8
         have HR303_3 := Aside0.mk hi303_3
         have HC303_3 := Aside0.mk hl303_3
         clear hi303_3 hl303_3
         have HR303_6 := Aside0.mk hi303_6
         have HC303_6 := Aside0.mk hl303_6
         clear hi303_6 hl303_6
         replace p303 := eq_true p303
         replace q303 := eq_true q303
         have ea_ := Option.some.inj (hx296_3.symm.trans hx303_3)
         injection ea_ with ea_ en_ ec_
         subst ea_
         subst ec_
         clear en_
         have ea_ := Option.some.inj (hx296_6.symm.trans hx303_6)
         injection ea_ with ea_ en_ ec_
         subst ea_
         subst ec_
         clear en_
         refine start_ (n := 43) (S := fun w' => hc9_ w' (ad295.add ((x5_1).toNat * 9)) (.int .i64 ((rd_T76 l0 x5_1).f0.f0)) (.int .i64 ((rd_T76 l0 x5_1).f0.f1)) (.int .i64 ((rd_T76 l0 x5_1).f0.f2)) (.slice A295_3 ((rd_T76 l0 x5_1).f1.f0).length c295_3) (.int .i64 ((rd_T76 l0 x5_1).f1.f1)) (.int .i64 ((rd_T76 l0 x5_1).f1.f2)) (.slice A295_6 ((rd_T76 l0 x5_1).f2.f0).length c295_6) (.int .i64 ((rd_T76 l0 x5_1).f2.f1)) (.int .i64 ((rd_T76 l0 x5_1).f2.f2)) (hc9_ w' (ad296.add ((x5_1).toNat * 9)) (.int .i64 ((rd_T76 l1 x5_1).f0.f0)) (.int .i64 ((rd_T76 l1 x5_1).f0.f1)) (.int .i64 ((rd_T76 l1 x5_1).f0.f2)) (.slice A296_3 ((rd_T76 l1 x5_1).f1.f0).length c296_3) (.int .i64 ((rd_T76 l1 x5_1).f1.f1)) (.int .i64 ((rd_T76 l1 x5_1).f1.f2)) (.slice A296_6 ((rd_T76 l1 x5_1).f2.f0).length c296_6) (.int .i64 ((rd_T76 l1 x5_1).f2.f1)) (.int .i64 ((rd_T76 l1 x5_1).f2.f2)) (hc9_ w' (ad295.add ((x5_1).toNat * 9)) (.int .i64 ((rd_T76 l0 x5_1).f0.f0)) (.int .i64 ((rd_T76 l0 x5_1).f0.f1)) (.int .i64 ((rd_T76 l0 x5_1).f0.f2)) (.slice A295_3 ((rd_T76 l0 x5_1).f1.f0).length c295_3) (.int .i64 ((rd_T76 l0 x5_1).f1.f1)) (.int .i64 ((rd_T76 l0 x5_1).f1.f2)) (.slice A295_6 ((rd_T76 l0 x5_1).f2.f0).length c295_6) (.int .i64 ((rd_T76 l0 x5_1).f2.f1)) (.int .i64 ((rd_T76 l0 x5_1).f2.f2)) (he9_ w' (ad296.add ((x5_1).toNat * 9)) (.int .i64 ((rd_T76 l1 x5_1).f0.f0)) (.int .i64 ((rd_T76 l1 x5_1).f0.f1)) (.int .i64 ((rd_T76 l1 x5_1).f0.f2)) (.slice A296_3 ((rd_T76 l1 x5_1).f1.f0).length c296_3) (.int .i64 ((rd_T76 l1 x5_1).f1.f1)) (.int .i64 ((rd_T76 l1 x5_1).f1.f2)) (.slice A296_6 ((rd_T76 l1 x5_1).f2.f0).length c296_6) (.int .i64 ((rd_T76 l1 x5_1).f2.f1)) (.int .i64 ((rd_T76 l1 x5_1).f2.f2)))))) (ds := []) #[false, false, false, false, false, false, false, false, false, false, false, false, false, false, false, false, false, false, false, false, false, false, false, false, false, false, false, false, false, false, false, false, false, false, false, false, false, false, false, false, false, false, false] (by kernel_rfl) rfl rfl ⟨(bc_ HB.out hw295_0 :), (bc_ HB.out hw295_1 :), (bc_ HB.out hw295_2 :), (bc_ HB.out hw295_3 :), (bc_ HB.out hw295_4 :), (bc_ HB.out hw295_5 :), (bc_ HB.out hw295_6 :), (bc_ HB.out hw295_7 :), (bc_ HB.out hw295_8 :), (bc_ HB.out hw296_0 :), (bc_ HB.out hw296_1 :), (bc_ HB.out hw296_2 :), (bc_ HB.out hw296_3 :), (bc_ HB.out hw296_4 :), (bc_ HB.out hw296_5 :), (bc_ HB.out hw296_6 :), (bc_ HB.out hw296_7 :), (bc_ HB.out hw296_8 :), (bc_ HB.out hw297_0 :), (bc_ HB.out hw297_1 :), (bc_ HB.out hw297_2 :), (bc_ HB.out hw297_3 :), (bc_ HB.out hw297_4 :), (bc_ HB.out hw297_5 :), (bc_ HB.out hw297_6 :), (bc_ HB.out hw297_7 :), (bc_ HB.out hw297_8 :), (bc_ HB.out hw303_0 :), (bc_ HB.out hw303_1 :), (bc_ HB.out hw303_2 :), (bc_ HB.out hw303_3 :), (bc_ HB.out hw303_4 :), (bc_ HB.out hw303_5 :), (bc_ HB.out hw303_6 :), (bc_ HB.out hw303_7 :), (bc_ HB.out hw303_8 :)⟩ (fun hHeld => ?_); refine with_tabW remontoirlaw18_stays.tab6 remontoirlaw18_stays.bits6 (fun HT_ HW_ => ?_)
         generalize wr.drew = w39 at HB HR295_3 HR295_6 HR296_3 HR296_6 HR297_3 HR297_6 HR303_3 HR303_6 hx295_0 hx295_1 hx295_2 hx295_3 hx295_4 hx295_5 hx295_6 hx295_7 hx295_8 hx296_0 hx296_1 hx296_2 hx296_3 hx296_4 hx296_5 hx296_6 hx296_7 hx296_8 hx297_0 hx297_1 hx297_2 hx297_3 hx297_4 hx297_5 hx297_6 hx297_7 hx297_8 hx303_0 hx303_1 hx303_2 hx303_3 hx303_4 hx303_5 hx303_6 hx303_7 hx303_8 hHeld ⊢
         refine pa_ 0 17 (bm 43 0x1) HT_ (h := ?_)
         refine pa_ 1 18 (bm 43 0x3) HT_ (h := ?_)
         refine pa_ 2 19 (bm 43 0x7) HT_ (h := ?_)
         refine pa_ 3 20 (bm 43 0xf) HT_ (h := ?_)
         refine pa_ 5 22 (bm 43 0x2f) HT_ (h := ?_)
         refine pa_ 6 23 (bm 43 0x6f) HT_ (h := ?_)
         refine pa_ 7 24 (bm 43 0xef) HT_ (h := ?_)
         refine pa_ 8 25 (bm 43 0x1ef) HT_ (h := ?_)
         refine take_ (i := 4) (N := some 21) (v := ?_) (a' := ?_) (bm 43 0x1ff) rfl rfl (take_ofW HT_.out HW_.out (by kernel_rfl)) (fun _ _ _ h => h) (Or.inl ⟨by rfl, ?_⟩) hHeld ?_ ?_
         rotate_left
         ·
          rintro w' ⟨s0, s1, s2, s3, s4, s5, s6, s7, s8, s9, s10, s11, s12, s13, s14, s15, s16, s17, s18, s19, s20, s21, s22, s23, s24, s25, s26, s27, s28, s29, s30, s31, s32, s33, s34, s35⟩
          go_simp
          with_reducible rfl
         rotate_left
         ·
          simp only [Act.put, sbA, sbB, sbC, i64_w, i32_w]
          rfl
         refine take_ (i := 9) (N := some 26) (v := ?_) (a' := ?_) (bm 43 0x3ff) rfl rfl (take_ofW HT_.out HW_.out (by kernel_rfl)) (fun _ _ _ h => h) (Or.inl ⟨by rfl, ?_⟩) hHeld ?_ ?_
         rotate_left
         ·
          rintro w' ⟨s0, s1, s2, s3, s4, s5, s6, s7, s8, s9, s10, s11, s12, s13, s14, s15, s16, s17, s18, s19, s20, s21, s22, s23, s24, s25, s26, s27, s28, s29, s30, s31, s32, s33, s34, s35⟩
          go_simp
          with_reducible rfl
         rotate_left
         ·
          simp only [Act.put, sbA, sbB, sbC, i64_w, i32_w]
          rfl
         refine pa_ 10 27 (bm 43 0x7ff) HT_ (h := ?_)
         refine pa_ 11 28 (bm 43 0xfff) HT_ (h := ?_)
         refine pa_ 12 29 (bm 43 0x1fff) HT_ (h := ?_)
         refine pa_ 13 30 (bm 43 0x3fff) HT_ (h := ?_)
         refine pa_ 14 31 (bm 43 0x7fff) HT_ (h := ?_)
         refine pa_ 15 32 (bm 43 0xffff) HT_ (h := ?_)
         refine pa_ 18 35 (bm 43 0x4ffff) HT_ (h := ?_)
         refine pa_ 19 36 (bm 43 0xcffff) HT_ (h := ?_)
         refine pa_ 20 37 (bm 43 0x1cffff) HT_ (h := ?_)
         refine pa_ 21 38 (bm 43 0x3cffff) HT_ (h := ?_)
         refine take_ (i := 16) (N := some 33) (v := ?_) (a' := ?_) (bm 43 0x3dffff) rfl rfl (take_ofW HT_.out HW_.out (by kernel_rfl)) (fun _ _ _ h => h) (Or.inl ⟨by rfl, ?_⟩) hHeld ?_ ?_
         rotate_left
         ·
          rintro w' ⟨s0, s1, s2, s3, s4, s5, s6, s7, s8, s9, s10, s11, s12, s13, s14, s15, s16, s17, s18, s19, s20, s21, s22, s23, s24, s25, s26, s27, s28, s29, s30, s31, s32, s33, s34, s35⟩
          go_simp
          with_reducible rfl
         rotate_left
         ·
          simp only [Act.put, sbA, sbB, sbC, i64_w, i32_w]
          rfl
         refine take_ (i := 22) (N := some 39) (v := ?_) (a' := ?_) (bm 43 0x7dffff) rfl rfl (take_ofW HT_.out HW_.out (by kernel_rfl)) (fun _ _ _ h => h) (Or.inl ⟨by rfl, ?_⟩) hHeld ?_ ?_
         rotate_left
         ·
          rintro w' ⟨s0, s1, s2, s3, s4, s5, s6, s7, s8, s9, s10, s11, s12, s13, s14, s15, s16, s17, s18, s19, s20, s21, s22, s23, s24, s25, s26, s27, s28, s29, s30, s31, s32, s33, s34, s35⟩
          go_simp
          with_reducible rfl
         rotate_left
         ·
          simp only [Act.put, sbA, sbB, sbC, i64_w, i32_w]
          rfl
         refine one_ (i := 17) (N := some 34) (bm 43 0x7fffff) rfl rfl (one_of HT_.out (by kernel_rfl)) (by decide) (fun K hK => ?_)
         refine goes_ Try.func15 (by kernel_rfl) rfl #[.agg #[.slice A295_3 ((rd_T76 l0 x5_1).f1.f0).length c295_3, .int .i64 ((rd_T76 l0 x5_1).f1.f1), .int .i64 ((rd_T76 l0 x5_1).f1.f2)]] (by rfl) rfl rfl (by (try simp only [List.map_toArray, List.map_cons, List.map_nil]); rfl) ?_
         with_reducible refine (remontoirlaw03_As.calls (fun k_ => k_ < w.heap.size) _ _ ((rd_T76 l0 x5_1).f1.f0) ((rd_T76 l0 x5_1).f1.f1) ((rd_T76 l0 x5_1).f1.f2) t298 t301 t302 _ ?side1 A9.out).mono ?_
         (case side1 => exact Kd.V_mk HC297_3.out (Kd.F_below (Kd.C_F (Kd.heap_int .i64) HR297_3.out) HB.out))
         rintro e w40 ⟨v299, rfl, ho0, hb⟩
         refine ⟨_, rfl, ?_⟩
         have n0_ := Aside0.mk (Kd.V_lower (Kd.V_mono (ok' := fun k_ => True) ho0 (fun k_ hk_ => trivial)) (below_size HB.out))
         have HO300 := n0_; clear n0_; replace HB := hb_ HB hb
         (try clear hb)
         (try clear hb2)
         (try clear hk)
         (try clear hi)
         (try clear ho0)
         refine hK.out _ _ ⟨bc_ HB.out hw295_0, bc_ HB.out hw295_1, bc_ HB.out hw295_2, bc_ HB.out hw295_3, bc_ HB.out hw295_4, bc_ HB.out hw295_5, bc_ HB.out hw295_6, bc_ HB.out hw295_7, bc_ HB.out hw295_8, bc_ HB.out hw296_0, bc_ HB.out hw296_1, bc_ HB.out hw296_2, bc_ HB.out hw296_3, bc_ HB.out hw296_4, bc_ HB.out hw296_5, bc_ HB.out hw296_6, bc_ HB.out hw296_7, bc_ HB.out hw296_8, bc_ HB.out hw297_0, bc_ HB.out hw297_1, bc_ HB.out hw297_2, bc_ HB.out hw297_3, bc_ HB.out hw297_4, bc_ HB.out hw297_5, bc_ HB.out hw297_6, bc_ HB.out hw297_7, bc_ HB.out hw297_8, bc_ HB.out hw303_0, bc_ HB.out hw303_1, bc_ HB.out hw303_2, bc_ HB.out hw303_3, bc_ HB.out hw303_4, bc_ HB.out hw303_5, bc_ HB.out hw303_6, bc_ HB.out hw303_7, bc_ HB.out hw303_8⟩ (fun hHeld => ?_)
         clear hK K
         refine nm_ 34 (h := ?_)
         refine one_ (i := 23) (N := some 40) (bm 43 0xffffff) rfl rfl (one_of HT_.out (by kernel_rfl)) (by decide) (fun K hK => ?_)
         refine goes_ Try.func15 (by kernel_rfl) rfl #[.agg #[.slice A296_3 ((rd_T76 l1 x5_1).f1.f0).length c296_3, .int .i64 ((rd_T76 l1 x5_1).f1.f1), .int .i64 ((rd_T76 l1 x5_1).f1.f2)]] (by rfl) rfl rfl (by (try simp only [List.map_toArray, List.map_cons, List.map_nil]); rfl) ?_
         with_reducible refine (remontoirlaw03_As.calls (fun k_ => k_ < w.heap.size) _ _ ((rd_T76 l1 x5_1).f1.f0) ((rd_T76 l1 x5_1).f1.f1) ((rd_T76 l1 x5_1).f1.f2) t304 t307 t308 _ ?side1 A10.out).mono ?_
         (case side1 => exact Kd.V_mk HC303_3.out (Kd.F_below (Kd.C_F (Kd.heap_int .i64) HR303_3.out) HB.out))
         rintro e w41 ⟨v305, rfl, ho0, hb⟩
         refine ⟨_, rfl, ?_⟩
         have n1_ := Aside0.mk (Kd.V_lower (Kd.V_mono (ok' := fun k_ => True) ho0 (fun k_ hk_ => trivial)) (below_size HB.out))
         have HO306 := n1_; clear n1_; replace HO300 := vb_ HO300 hb; replace HB := hb_ HB hb
         (try clear hb)
         (try clear hb2)
         (try clear hk)
         (try clear hi)
         (try clear ho0)
         obtain ⟨Ao42, co42, eo42⟩ := Kd.V_slice HO300.out
         ((subst eo42))
         obtain ⟨Ao43, co43, eo43⟩ := Kd.V_slice HO306.out
         ((subst eo43))
         refine hK.out _ _ ⟨bc_ HB.out hw295_0, bc_ HB.out hw295_1, bc_ HB.out hw295_2, bc_ HB.out hw295_3, bc_ HB.out hw295_4, bc_ HB.out hw295_5, bc_ HB.out hw295_6, bc_ HB.out hw295_7, bc_ HB.out hw295_8, bc_ HB.out hw296_0, bc_ HB.out hw296_1, bc_ HB.out hw296_2, bc_ HB.out hw296_3, bc_ HB.out hw296_4, bc_ HB.out hw296_5, bc_ HB.out hw296_6, bc_ HB.out hw296_7, bc_ HB.out hw296_8, bc_ HB.out hw297_0, bc_ HB.out hw297_1, bc_ HB.out hw297_2, bc_ HB.out hw297_3, bc_ HB.out hw297_4, bc_ HB.out hw297_5, bc_ HB.out hw297_6, bc_ HB.out hw297_7, bc_ HB.out hw297_8, bc_ HB.out hw303_0, bc_ HB.out hw303_1, bc_ HB.out hw303_2, bc_ HB.out hw303_3, bc_ HB.out hw303_4, bc_ HB.out hw303_5, bc_ HB.out hw303_6, bc_ HB.out hw303_7, bc_ HB.out hw303_8⟩ (fun hHeld => ?_)
         clear hK K
         refine nm_ 40 (h := ?_)
         refine one_ (i := 24) (N := some 41) (bm 43 0x1ffffff) rfl rfl (one_of HT_.out (by kernel_rfl)) (by decide) (fun K hK => ?_)
         refine goes_ Try.func20 (by kernel_rfl) rfl #[.agg #[.slice Ao42 t298.length co42, .int .i64 t301, .int .i64 t302], .agg #[.slice Ao43 t304.length co43, .int .i64 t307, .int .i64 t308]] (by rfl) rfl rfl (by (try simp only [List.map_toArray, List.map_cons, List.map_nil]); rfl) ?_
         with_reducible refine (remontoirref03_Same.calls k1 _ _ t298 t301 t302 _ _ t304 t307 t308 false _ ?side1 ?side2 ?side3 ?side4 A11.out).mono ?_
         (case side1 => repeat ((exact (Kd.V_reads' HO300.out).2.2)))
         (case side2 => exact (Kd.V_reads' HO300.out).2.1)
         (case side3 => repeat ((exact (Kd.V_reads' HO306.out).2.2)))
         (case side4 => exact (Kd.V_reads' HO306.out).2.1)
         rintro e w44 ⟨rfl, hb⟩
         refine ⟨_, rfl, ?_⟩
         replace HO300 := vb_ HO300 hb; replace HO306 := vb_ HO306 hb; replace HB := hb_ HB hb
         (try clear hb)
         (try clear hb2)
         (try clear hk)
         (try clear hi)
         refine hK.out _ _ ⟨bc_ HB.out hw295_0, bc_ HB.out hw295_1, bc_ HB.out hw295_2, bc_ HB.out hw295_3, bc_ HB.out hw295_4, bc_ HB.out hw295_5, bc_ HB.out hw295_6, bc_ HB.out hw295_7, bc_ HB.out hw295_8, bc_ HB.out hw296_0, bc_ HB.out hw296_1, bc_ HB.out hw296_2, bc_ HB.out hw296_3, bc_ HB.out hw296_4, bc_ HB.out hw296_5, bc_ HB.out hw296_6, bc_ HB.out hw296_7, bc_ HB.out hw296_8, bc_ HB.out hw297_0, bc_ HB.out hw297_1, bc_ HB.out hw297_2, bc_ HB.out hw297_3, bc_ HB.out hw297_4, bc_ HB.out hw297_5, bc_ HB.out hw297_6, bc_ HB.out hw297_7, bc_ HB.out hw297_8, bc_ HB.out hw303_0, bc_ HB.out hw303_1, bc_ HB.out hw303_2, bc_ HB.out hw303_3, bc_ HB.out hw303_4, bc_ HB.out hw303_5, bc_ HB.out hw303_6, bc_ HB.out hw303_7, bc_ HB.out hw303_8⟩ (fun hHeld => ?_)
         clear hK K
         refine nm_ 41 (h := ?_)
         refine pa_ 25 42 (bm 43 0x3ffffff) HT_ (h := ?_)
         refine pa_ 26 43 (bm 43 0x7ffffff) HT_ (h := ?_)
         refine pa_ 27 44 (bm 43 0xfffffff) HT_ (h := ?_)
         refine pz_ 28 45 (bm 43 0x1fffffff) HT_ (h := ?_)
         refine pz_ 29 46 (bm 43 0x3fffffff) HT_ (h := ?_)
         refine pz_ 30 47 (bm 43 0x7fffffff) HT_ (h := ?_)
         refine pz_ 31 48 (bm 43 0xffffffff) HT_ (h := ?_)
         refine pz_ 32 49 (bm 43 0x1ffffffff) HT_ (h := ?_)
         refine pz_ 33 50 (bm 43 0x3ffffffff) HT_ (h := ?_)
         refine pz_ 34 51 (bm 43 0x7ffffffff) HT_ (h := ?_)
         refine pz_ 35 52 (bm 43 0xfffffffff) HT_ (h := ?_)
         refine pz_ 36 53 (bm 43 0x1fffffffff) HT_ (h := ?_)
         refine pz_ 37 54 (bm 43 0x3fffffffff) HT_ (h := ?_)
         refine pz_ 38 55 (bm 43 0x7fffffffff) HT_ (h := ?_)
         refine pz_ 39 56 (bm 43 0xffffffffff) HT_ (h := ?_)
         refine pz_ 40 57 (bm 43 0x1ffffffffff) HT_ (h := ?_)
         refine pz_ 41 58 (bm 43 0x3ffffffffff) HT_ (h := ?_)
         refine pa_ 42 59 (bm 43 0x7ffffffffff) HT_ (h := ?_)
         refine done_ (done_of HT_.out (by kernel_rfl)) ?_
         try go_wp2
         go_ret
         exact ⟨by rfl, by repeat ((with_reducible (exact HB.out)))⟩
      ·
       rw [if_neg c6] at H
       exact absurd H (by simp)
     ·
      rw [if_neg c5] at H
      exact absurd H (by simp)
    ·
     rw [if_neg c4] at H
     have c4b0 : decide (x5_1 < (l0.length : Int)) = false := decide_eq_false c4
     clear c4
     obtain rfl := Option.some.inj H
     go_wp2
     go_ret
     exact ⟨by rfl, by repeat ((with_reducible (exact HB.out)))⟩
 ·
  rw [if_neg c3] at H
  have c3b0 : ((l0.length : Int) == (l1.length : Int)) = false := beq_eq_false_iff_ne.mpr c3
  have c3b1 : ((l0.length : Int) != (l1.length : Int)) = true := bne_iff_ne.mpr c3
  have c3b2 : (l0.length == l1.length) = false := by (simp at c3 ⊢; omega)
  obtain rfl := Option.some.inj H
  go_enter Try.func34, Try.ntmps34
  go_wp2
  go_ret
  exact ⟨by rfl, by repeat ((with_reducible (exact HB.out)))⟩

end Go.Proofs.Yteddflcloeelhaa.FDeliv
