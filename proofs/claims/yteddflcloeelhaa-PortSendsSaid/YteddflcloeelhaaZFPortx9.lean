-- Written by the session (wip/tools) for this claim: functions of the program as Lean functions, and their contracts.
import Derived.Test.YteddflcloeelhaaZXShort
import Derived.Test.YteddflcloeelhaaZFPortx0
import Derived.Test.YteddflcloeelhaaZFPortx1
import Derived.Test.YteddflcloeelhaaZFPortx6
import Derived.Test.YteddflcloeelhaaZFPortx8
namespace Go.Proofs.Yteddflcloeelhaa.FPort
open Go.RowKit Go.Proofs.YteddflcloeelhaaW.PrintWords Go.Proofs.YteddflcloeelhaaW.PrintLast Go.Proofs.YteddflcloeelhaaW.PrintMore
attribute [local go_sem] max2_int min2_int max_two min_two max_three min_three max_four min_four   -- for this text's walks alone
set_option linter.unusedVariables false
set_option linter.unusedSimpArgs false

attribute [local go_sem high] eqA51
/-! ### remontoirlaw18_stays: function 34 -/
def remontoirlaw18_stays.l0 : Nat → List (S76) → List (S76) → Int → Option (Bool)
 | 0, _, _, _ => none
 | k + 1, x0, x1, x5 => if x5 < (x0.length : Int) then (if 0 ≤ x5 then (if x5 < (x1.length : Int) then (if (!(((rd_T76 x0 x5).f0.f0) == ((rd_T76 x1 x5).f0.f0)) || (!(((rd_T76 x0 x5).f0.f1) == ((rd_T76 x1 x5).f0.f1)) || (!(((rd_T76 x0 x5).f0.f2) == ((rd_T76 x1 x5).f0.f2))))) = true then (some false) else ((remontoirlaw03_As.f ((rd_T76 x0 x5).f1.f0) ((rd_T76 x0 x5).f1.f1) ((rd_T76 x0 x5).f1.f2)).bind fun bt330 => ((remontoirlaw03_As.f ((rd_T76 x1 x5).f1.f0) ((rd_T76 x1 x5).f1.f1) ((rd_T76 x1 x5).f1.f2)).bind fun bt336 => ((remontoirref03_Same.f k bt330.1 bt330.2.1 bt330.2.2 bt336.1 bt336.2.1 bt336.2.2).bind fun t341 => (if t341 = true then ((remontoirlaw03_As.f ((rd_T76 x0 x5).f2.f0) ((rd_T76 x0 x5).f2.f1) ((rd_T76 x0 x5).f2.f2)).bind fun bt343 => ((remontoirlaw03_As.f ((rd_T76 x1 x5).f2.f0) ((rd_T76 x1 x5).f2.f1) ((rd_T76 x1 x5).f2.f2)).bind fun bt349 => ((remontoirref03_Same.f k bt343.1 bt343.2.1 bt343.2.2 bt349.1 bt349.2.1 bt349.2.2).bind fun t354 => (if t354 = true then (remontoirlaw18_stays.l0 k x0 x1 (wrap64 (x5 + 1))) else (some false))))) else (some false)))))) else (none)) else (none)) else (some true)
def remontoirlaw18_stays.f (k : Nat) (l0 : List (S76)) (l1 : List (S76)) : Option (Bool) := if (l0.length : Int) = (l1.length : Int) then (remontoirlaw18_stays.l0 k l0 l1 0) else (some false)
theorem remontoirlaw18_stays.mono_l : ∀ k, (∀ y0 y1 y2, LeO (remontoirlaw18_stays.l0 k y0 y1 y2) (remontoirlaw18_stays.l0 (k + 1) y0 y1 y2))
 | 0 => fun _ _ _ r h => by simp [remontoirlaw18_stays.l0] at h
 | k + 1 => by
  have ih0 := remontoirlaw18_stays.mono_l k
  ·
   intro y0 y1 y2
   unfold remontoirlaw18_stays.l0
   repeat' first | (with_reducible exact ih0 _ _ _) | (with_reducible exact remontoirref03_Same.mono _ _ _ _ _ _ _) | (with_reducible exact LeO.refl _) | (with_reducible refine LeO.ite ?_ ?_) | (with_reducible refine LeO.bind ?_ (fun _ => ?_))
theorem remontoirlaw18_stays.mono : ∀ a0 a1 k, LeO (remontoirlaw18_stays.f k a0 a1) (remontoirlaw18_stays.f (k + 1) a0 a1) := by
 intro a0 a1 k
 have ih0 := remontoirlaw18_stays.mono_l k
 unfold remontoirlaw18_stays.f
 repeat' first | (with_reducible exact ih0 _ _ _) | (with_reducible exact LeO.refl _) | (with_reducible refine LeO.ite ?_ ?_)
def remontoirlaw18_stays.T6 : Bool × List (List Nat × List Nat) := (true, [([], []), ([], []), ([0, 1], [0, 1]), ([2], [2]), ([3], [3]), ([], []), ([], []), ([5, 6], [5, 6]), ([7], [7]), ([8], [8]), ([4, 9], [4, 9]), ([10], [10]), ([11], [11]), ([11], [11]), ([12, 13, 11], [11, 12, 13]), ([14, 11], [11, 14]), ([15, 11], [11, 15]), ([16, 11, 11], [11, 16]), ([11], [11]), ([11], [11]), ([18, 19, 11], [11, 18, 19]), ([20, 11], [11, 20]), ([21, 11], [11, 21]), ([22, 17, 11], [11, 22]), ([17, 23, 23, 11], [11, 17, 23]), ([24, 11], [11, 24]), ([11, 25], [11, 25]), ([26, 24], [26]), ([27], [27]), ([27], [27]), ([28, 29, 27], [27, 28, 29]), ([30, 27], [27, 30]), ([31, 27], [27, 31]), ([32, 27, 27], [27, 32]), ([27], [27]), ([27], [27]), ([34, 35, 27], [27, 34, 35]), ([36, 27], [27, 36]), ([37, 27], [27, 37]), ([38, 33, 27], [27, 38]), ([33, 39, 39, 27], [27, 33, 39]), ([40, 27], [27, 40]), ([27, 41], [27, 41])])
def remontoirlaw18_stays.B6 : List Nat := [0, 0, 3, 7, 15, 0, 0, 96, 224, 480, 1023, 2047, 4095, 4095, 16383, 32767, 65535, 131071, 4095, 4095, 790527, 1839103, 3936255, 8388607, 16777215, 33554431, 67108863, 134217727, 268435455, 268435455, 1073741823, 2147483647, 4294967295, 8589934591, 268435455, 268435455, 51808043007, 120527519743, 257966473215, 549755813887, 1099511627775, 2199023255551, 4398046511103]
theorem remontoirlaw18_stays.tab6 : rtab .any (opsOf Try.f34 6) = remontoirlaw18_stays.T6 := by kernel_rfl
theorem remontoirlaw18_stays.bits6 : waitsOk remontoirlaw18_stays.T6.2 remontoirlaw18_stays.B6 = true := by kernel_rfl
set_option maxHeartbeats 8000000 in
set_option maxRecDepth 100000 in
theorem remontoirlaw18_stays.calls (k : Nat) (A0 : Option Addr) (c0 : Nat) (l0 : List (S76)) (A1 : Option Addr) (c1 : Nat) (l1 : List (S76)) (r : Bool) (w : World) (hr0 : Kd.C k76 w A0 l0.length l0) (hc0 : l0.length ≤ c0) (hr1 : Kd.C k76 w A1 l1.length l1) (hc1 : l1.length ≤ c1) (h : remontoirlaw18_stays.f k l0 l1 = some r) :
  Calls Try.prog 34 #[.slice A0 l0.length c0, .slice A1 l1.length c1] w fun e w' => e = .returned (.bool r) ∧ Below w.heap.size w w' := by
 have hu51 := Try.underlying51
 have hu24 := Try.underlying24
 have HR0 := Aside0.mk hr0
 have HC0 := Aside0.mk hc0
 clear hr0 hc0
 have HR1 := Aside0.mk hr1
 have HC1 := Aside0.mk hc1
 clear hr1 hc1
 have HB := Aside0.mk (Below.refl w.heap.size w)
 have H : (if (l0.length : Int) = (l1.length : Int) then (remontoirlaw18_stays.l0 k l0 l1 0) else (some false)) = some r := h
 clear h
 by_cases c3 : (l0.length : Int) = (l1.length : Int)
 ·
  rw [if_pos c3] at H
  have c3b0 : ((l0.length : Int) == (l1.length : Int)) = true := beq_iff_eq.mpr c3
  have c3b1 : ((l0.length : Int) != (l1.length : Int)) = false := bne_eq_false_iff_eq.mpr c3
  have c3b2 : (l0.length == l1.length) = true := by (simp at c3 ⊢; omega)
  clear c3
  have H' := Aside0.mk H
  clear H
  go_enter Try.func34, Try.ntmps34
  go_wp2
  go_loopg [5] k (fun kq v5 w' => ∃ (x5_1 : Int), v5 = .int .i64 x5_1 ∧ Aside0 (remontoirlaw18_stays.l0 kq l0 l1 x5_1 = some r) ∧ Aside0 (kq ≤ k) ∧ Aside0 (Below w.heap.size w w'))
  case atStart => exact ⟨(0), (by rfl), H', ⟨Nat.le_refl _⟩, ⟨HB.out⟩⟩
  case round =>
   clear H'
   try clear c1
   try clear p2
   try clear c3
   try clear c3b0
   try clear c3b1
   try clear c3b2
   obtain ⟨x5_1, rfl, HA, HK1, HB⟩ := hrel
   cases gk with
   | zero => exact absurd HA.out (by simp [remontoirlaw18_stays.l0])
   | succ k1 =>
    have H := HA.out
    clear HA
    simp only [remontoirlaw18_stays.l0] at H
    by_cases c4 : x5_1 < (l0.length : Int)
    ·
     rw [if_pos c4] at H
     have c4b0 : decide (x5_1 < (l0.length : Int)) = true := decide_eq_true c4
     clear c4
     by_cases c5 : 0 ≤ x5_1
     ·
      rw [if_pos c5] at H
      have c5b0 : decide (0 ≤ x5_1) = true := decide_eq_true c5
      clear c5
      by_cases c6 : x5_1 < (l1.length : Int)
      ·
       rw [if_pos c6] at H
       have c6b0 : decide (x5_1 < (l1.length : Int)) = true := decide_eq_true c6
       clear c6
       by_cases c7 : (!(((rd_T76 l0 x5_1).f0.f0) == ((rd_T76 l1 x5_1).f0.f0)) || (!(((rd_T76 l0 x5_1).f0.f1) == ((rd_T76 l1 x5_1).f0.f1)) || (!(((rd_T76 l0 x5_1).f0.f2) == ((rd_T76 l1 x5_1).f0.f2))))) = true
       ·
        rw [if_pos c7] at H
        have c7b0 : (!(((rd_T76 l0 x5_1).f0.f0) == ((rd_T76 l1 x5_1).f0.f0)) || (!(((rd_T76 l0 x5_1).f0.f1) == ((rd_T76 l1 x5_1).f0.f1)) || (!(((rd_T76 l0 x5_1).f0.f2) == ((rd_T76 l1 x5_1).f0.f2))))) = true := c7
        clear c7
        obtain rfl := Option.some.inj H
        try go_wp2
        have n0_ := Aside0.mk (below_drew1 HB.out)
        clear HB; have HB := n0_; clear n0_
        have p327 : 0 ≤ (x5_1 : Int) := of_decide_eq_true (by (with_reducible assumption))
        have q327 : x5_1 < (l0.length : Int) := of_decide_eq_true (by (with_reducible assumption))
        obtain ⟨ad327, A327_3, c327_3, A327_6, c327_6, e327, hx327_0, hx327_1, hx327_2, hx327_3, hx327_4, hx327_5, hx327_6, hx327_7, hx327_8, hl327_3, hi327_3, hl327_6, hi327_6⟩ := at_T76 HR0.out x5_1 p327 q327
        have hw327_8 := hx327_8
        have hw327_7 := hx327_7
        have hw327_6 := hx327_6
        have hw327_5 := hx327_5
        have hw327_4 := hx327_4
        have hw327_3 := hx327_3
        have hw327_2 := hx327_2
        have hw327_1 := hx327_1
        have hw327_0 := hx327_0
        cases e327
        replace hx327_0 := bc_ HB.out hx327_0
        replace hx327_1 := bc_ HB.out hx327_1
        replace hx327_2 := bc_ HB.out hx327_2
        replace hx327_3 := bc_ HB.out hx327_3
        replace hx327_4 := bc_ HB.out hx327_4
        replace hx327_5 := bc_ HB.out hx327_5
        replace hx327_6 := bc_ HB.out hx327_6
        replace hx327_7 := bc_ HB.out hx327_7
        replace hx327_8 := bc_ HB.out hx327_8
        have HR327_3 := Aside0.mk hi327_3
        have HC327_3 := Aside0.mk hl327_3
        clear hi327_3 hl327_3
        have HR327_6 := Aside0.mk hi327_6
        have HC327_6 := Aside0.mk hl327_6
        clear hi327_6 hl327_6
        replace p327 := eq_true p327
        replace q327 := eq_true q327
        have p328 : 0 ≤ (x5_1 : Int) := of_decide_eq_true (by (with_reducible assumption))
        have q328 : x5_1 < (l1.length : Int) := of_decide_eq_true (by (with_reducible assumption))
        obtain ⟨ad328, A328_3, c328_3, A328_6, c328_6, e328, hx328_0, hx328_1, hx328_2, hx328_3, hx328_4, hx328_5, hx328_6, hx328_7, hx328_8, hl328_3, hi328_3, hl328_6, hi328_6⟩ := at_T76 HR1.out x5_1 p328 q328
        have hw328_8 := hx328_8
        have hw328_7 := hx328_7
        have hw328_6 := hx328_6
        have hw328_5 := hx328_5
        have hw328_4 := hx328_4
        have hw328_3 := hx328_3
        have hw328_2 := hx328_2
        have hw328_1 := hx328_1
        have hw328_0 := hx328_0
        cases e328
        replace hx328_0 := bc_ HB.out hx328_0
        replace hx328_1 := bc_ HB.out hx328_1
        replace hx328_2 := bc_ HB.out hx328_2
        replace hx328_3 := bc_ HB.out hx328_3
        replace hx328_4 := bc_ HB.out hx328_4
        replace hx328_5 := bc_ HB.out hx328_5
        replace hx328_6 := bc_ HB.out hx328_6
        replace hx328_7 := bc_ HB.out hx328_7
        replace hx328_8 := bc_ HB.out hx328_8
        have HR328_3 := Aside0.mk hi328_3
        have HC328_3 := Aside0.mk hl328_3
        clear hi328_3 hl328_3
        have HR328_6 := Aside0.mk hi328_6
        have HC328_6 := Aside0.mk hl328_6
        clear hi328_6 hl328_6
        replace p328 := eq_true p328
        replace q328 := eq_true q328
        refine start_ (n := 43) (S := fun w' => hc9_ w' (ad327.add ((x5_1).toNat * 9)) (.int .i64 ((rd_T76 l0 x5_1).f0.f0)) (.int .i64 ((rd_T76 l0 x5_1).f0.f1)) (.int .i64 ((rd_T76 l0 x5_1).f0.f2)) (.slice A327_3 ((rd_T76 l0 x5_1).f1.f0).length c327_3) (.int .i64 ((rd_T76 l0 x5_1).f1.f1)) (.int .i64 ((rd_T76 l0 x5_1).f1.f2)) (.slice A327_6 ((rd_T76 l0 x5_1).f2.f0).length c327_6) (.int .i64 ((rd_T76 l0 x5_1).f2.f1)) (.int .i64 ((rd_T76 l0 x5_1).f2.f2)) (he9_ w' (ad328.add ((x5_1).toNat * 9)) (.int .i64 ((rd_T76 l1 x5_1).f0.f0)) (.int .i64 ((rd_T76 l1 x5_1).f0.f1)) (.int .i64 ((rd_T76 l1 x5_1).f0.f2)) (.slice A328_3 ((rd_T76 l1 x5_1).f1.f0).length c328_3) (.int .i64 ((rd_T76 l1 x5_1).f1.f1)) (.int .i64 ((rd_T76 l1 x5_1).f1.f2)) (.slice A328_6 ((rd_T76 l1 x5_1).f2.f0).length c328_6) (.int .i64 ((rd_T76 l1 x5_1).f2.f1)) (.int .i64 ((rd_T76 l1 x5_1).f2.f2)))) (ds := []) #[false, false, false, false, false, false, false, false, false, false, false, false, false, false, false, false, false, false, false, false, false, false, false, false, false, false, false, false, false, false, false, false, false, false, false, false, false, false, false, false, false, false, false] (by kernel_rfl) rfl rfl ⟨bc_ HB.out hw327_0, bc_ HB.out hw327_1, bc_ HB.out hw327_2, bc_ HB.out hw327_3, bc_ HB.out hw327_4, bc_ HB.out hw327_5, bc_ HB.out hw327_6, bc_ HB.out hw327_7, bc_ HB.out hw327_8, bc_ HB.out hw328_0, bc_ HB.out hw328_1, bc_ HB.out hw328_2, bc_ HB.out hw328_3, bc_ HB.out hw328_4, bc_ HB.out hw328_5, bc_ HB.out hw328_6, bc_ HB.out hw328_7, bc_ HB.out hw328_8⟩ (fun hHeld => ?_); refine with_tabW remontoirlaw18_stays.tab6 remontoirlaw18_stays.bits6 (fun HT_ HW_ => ?_)
        generalize wr.drew = w8 at HB HR327_3 HR327_6 HR328_3 HR328_6 hx327_0 hx327_1 hx327_2 hx327_3 hx327_4 hx327_5 hx327_6 hx327_7 hx327_8 hx328_0 hx328_1 hx328_2 hx328_3 hx328_4 hx328_5 hx328_6 hx328_7 hx328_8 hHeld ⊢
        refine pa_ 0 17 (bm 43 0x1) HT_ (h := ?_)
        refine pa_ 1 18 (bm 43 0x3) HT_ (h := ?_)
        refine pa_ 2 19 (bm 43 0x7) HT_ (h := ?_)
        refine pa_ 3 20 (bm 43 0xf) HT_ (h := ?_)
        refine pa_ 5 22 (bm 43 0x2f) HT_ (h := ?_)
        refine pa_ 6 23 (bm 43 0x6f) HT_ (h := ?_)
        refine pa_ 7 24 (bm 43 0xef) HT_ (h := ?_)
        refine pa_ 8 25 (bm 43 0x1ef) HT_ (h := ?_)
        refine take_ (i := 4) (N := some 21) (v := ?_) (a' := ?_) (bm 43 0x1ff) rfl rfl (take_ofW HT_.out HW_.out (by kernel_rfl)) (fun _ _ _ h => h) (Or.inl ⟨by rfl, ?_⟩) hHeld ?_ ?_
        rotate_left
        ·
         rintro w' ⟨s0, s1, s2, s3, s4, s5, s6, s7, s8, s9, s10, s11, s12, s13, s14, s15, s16, s17⟩
         go_simp
         with_reducible rfl
        rotate_left
        ·
         simp only [Act.put, sbA, sbB, sbC, i64_w, i32_w]
         rfl
        refine take_ (i := 9) (N := some 26) (v := ?_) (a' := ?_) (bm 43 0x3ff) rfl rfl (take_ofW HT_.out HW_.out (by kernel_rfl)) (fun _ _ _ h => h) (Or.inl ⟨by rfl, ?_⟩) hHeld ?_ ?_
        rotate_left
        ·
         rintro w' ⟨s0, s1, s2, s3, s4, s5, s6, s7, s8, s9, s10, s11, s12, s13, s14, s15, s16, s17⟩
         go_simp
         with_reducible rfl
        rotate_left
        ·
         simp only [Act.put, sbA, sbB, sbC, i64_w, i32_w]
         rfl
        refine pa_ 10 27 (bm 43 0x7ff) HT_ (h := ?_)
        refine pa_ 11 28 (bm 43 0xfff) HT_ (h := ?_)
        refine pz_ 12 29 (bm 43 0x1fff) HT_ (h := ?_)
        refine pz_ 13 30 (bm 43 0x3fff) HT_ (h := ?_)
        refine pz_ 14 31 (bm 43 0x7fff) HT_ (h := ?_)
        refine pz_ 15 32 (bm 43 0xffff) HT_ (h := ?_)
        refine pz_ 16 33 (bm 43 0x1ffff) HT_ (h := ?_)
        refine pz_ 17 34 (bm 43 0x3ffff) HT_ (h := ?_)
        refine pz_ 18 35 (bm 43 0x7ffff) HT_ (h := ?_)
        refine pz_ 19 36 (bm 43 0xfffff) HT_ (h := ?_)
        refine pz_ 20 37 (bm 43 0x1fffff) HT_ (h := ?_)
        refine pz_ 21 38 (bm 43 0x3fffff) HT_ (h := ?_)
        refine pz_ 22 39 (bm 43 0x7fffff) HT_ (h := ?_)
        refine pz_ 23 40 (bm 43 0xffffff) HT_ (h := ?_)
        refine pz_ 24 41 (bm 43 0x1ffffff) HT_ (h := ?_)
        refine pz_ 25 42 (bm 43 0x3ffffff) HT_ (h := ?_)
        refine pa_ 26 43 (bm 43 0x7ffffff) HT_ (h := ?_)
        refine pa_ 27 44 (bm 43 0xfffffff) HT_ (h := ?_)
        refine pz_ 28 45 (bm 43 0x1fffffff) HT_ (h := ?_)
        refine pz_ 29 46 (bm 43 0x3fffffff) HT_ (h := ?_)
        refine pz_ 30 47 (bm 43 0x7fffffff) HT_ (h := ?_)
        refine pz_ 31 48 (bm 43 0xffffffff) HT_ (h := ?_)
        refine pz_ 32 49 (bm 43 0x1ffffffff) HT_ (h := ?_)
        refine pz_ 33 50 (bm 43 0x3ffffffff) HT_ (h := ?_)
        refine pz_ 34 51 (bm 43 0x7ffffffff) HT_ (h := ?_)
        refine pz_ 35 52 (bm 43 0xfffffffff) HT_ (h := ?_)
        refine pz_ 36 53 (bm 43 0x1fffffffff) HT_ (h := ?_)
        refine pz_ 37 54 (bm 43 0x3fffffffff) HT_ (h := ?_)
        refine pz_ 38 55 (bm 43 0x7fffffffff) HT_ (h := ?_)
        refine pz_ 39 56 (bm 43 0xffffffffff) HT_ (h := ?_)
        refine pz_ 40 57 (bm 43 0x1ffffffffff) HT_ (h := ?_)
        refine pz_ 41 58 (bm 43 0x3ffffffffff) HT_ (h := ?_)
        refine pa_ 42 59 (bm 43 0x7ffffffffff) HT_ (h := ?_)
        refine done_ (done_of HT_.out (by kernel_rfl)) ?_
        try go_wp2
        go_ret
        exact ⟨by rfl, by repeat ((with_reducible (exact HB.out)))⟩
       ·
        rw [if_neg c7] at H
        have c7b0 : (!(((rd_T76 l0 x5_1).f0.f0) == ((rd_T76 l1 x5_1).f0.f0)) || (!(((rd_T76 l0 x5_1).f0.f1) == ((rd_T76 l1 x5_1).f0.f1)) || (!(((rd_T76 l0 x5_1).f0.f2) == ((rd_T76 l1 x5_1).f0.f2))))) = false := by simpa using c7
        clear c7
        replace H := Option.bind_eq_some_iff.mp H
        obtain ⟨⟨t330, t333, t334⟩, A90, H⟩ := H
        replace H : ((remontoirlaw03_As.f ((rd_T76 l1 x5_1).f1.f0) ((rd_T76 l1 x5_1).f1.f1) ((rd_T76 l1 x5_1).f1.f2)).bind fun bt336 => ((remontoirref03_Same.f k1 t330 t333 t334 bt336.1 bt336.2.1 bt336.2.2).bind fun t341 => (if t341 = true then ((remontoirlaw03_As.f ((rd_T76 l0 x5_1).f2.f0) ((rd_T76 l0 x5_1).f2.f1) ((rd_T76 l0 x5_1).f2.f2)).bind fun bt343 => ((remontoirlaw03_As.f ((rd_T76 l1 x5_1).f2.f0) ((rd_T76 l1 x5_1).f2.f1) ((rd_T76 l1 x5_1).f2.f2)).bind fun bt349 => ((remontoirref03_Same.f k1 bt343.1 bt343.2.1 bt343.2.2 bt349.1 bt349.2.1 bt349.2.2).bind fun t354 => (if t354 = true then (remontoirlaw18_stays.l0 k1 l0 l1 (wrap64 (x5_1 + 1))) else (some false))))) else (some false)))) = some r := H
        have A9 := Aside0.mk A90
        clear A90
        replace H := Option.bind_eq_some_iff.mp H
        obtain ⟨⟨t336, t339, t340⟩, A100, H⟩ := H
        replace H : ((remontoirref03_Same.f k1 t330 t333 t334 t336 t339 t340).bind fun t341 => (if t341 = true then ((remontoirlaw03_As.f ((rd_T76 l0 x5_1).f2.f0) ((rd_T76 l0 x5_1).f2.f1) ((rd_T76 l0 x5_1).f2.f2)).bind fun bt343 => ((remontoirlaw03_As.f ((rd_T76 l1 x5_1).f2.f0) ((rd_T76 l1 x5_1).f2.f1) ((rd_T76 l1 x5_1).f2.f2)).bind fun bt349 => ((remontoirref03_Same.f k1 bt343.1 bt343.2.1 bt343.2.2 bt349.1 bt349.2.1 bt349.2.2).bind fun t354 => (if t354 = true then (remontoirlaw18_stays.l0 k1 l0 l1 (wrap64 (x5_1 + 1))) else (some false))))) else (some false))) = some r := H
        have A10 := Aside0.mk A100
        clear A100
        replace H := Option.bind_eq_some_iff.mp H
        obtain ⟨t341, A110, H⟩ := H
        replace H : (if t341 = true then ((remontoirlaw03_As.f ((rd_T76 l0 x5_1).f2.f0) ((rd_T76 l0 x5_1).f2.f1) ((rd_T76 l0 x5_1).f2.f2)).bind fun bt343 => ((remontoirlaw03_As.f ((rd_T76 l1 x5_1).f2.f0) ((rd_T76 l1 x5_1).f2.f1) ((rd_T76 l1 x5_1).f2.f2)).bind fun bt349 => ((remontoirref03_Same.f k1 bt343.1 bt343.2.1 bt343.2.2 bt349.1 bt349.2.1 bt349.2.2).bind fun t354 => (if t354 = true then (remontoirlaw18_stays.l0 k1 l0 l1 (wrap64 (x5_1 + 1))) else (some false))))) else (some false)) = some r := H
        have A11 := Aside0.mk A110
        clear A110
        by_cases c12 : t341 = true
        ·
         subst c12
         have H1 : ((remontoirlaw03_As.f ((rd_T76 l0 x5_1).f2.f0) ((rd_T76 l0 x5_1).f2.f1) ((rd_T76 l0 x5_1).f2.f2)).bind fun bt343 => ((remontoirlaw03_As.f ((rd_T76 l1 x5_1).f2.f0) ((rd_T76 l1 x5_1).f2.f1) ((rd_T76 l1 x5_1).f2.f2)).bind fun bt349 => ((remontoirref03_Same.f k1 bt343.1 bt343.2.1 bt343.2.2 bt349.1 bt349.2.1 bt349.2.2).bind fun t354 => (if t354 = true then (remontoirlaw18_stays.l0 k1 l0 l1 (wrap64 (x5_1 + 1))) else (some false))))) = some r := by rw [if_pos rfl] at H; exact H
         clear H
         have H := H1
         clear H1
         replace H := Option.bind_eq_some_iff.mp H
         obtain ⟨⟨t343, t346, t347⟩, A130, H⟩ := H
         replace H : ((remontoirlaw03_As.f ((rd_T76 l1 x5_1).f2.f0) ((rd_T76 l1 x5_1).f2.f1) ((rd_T76 l1 x5_1).f2.f2)).bind fun bt349 => ((remontoirref03_Same.f k1 t343 t346 t347 bt349.1 bt349.2.1 bt349.2.2).bind fun t354 => (if t354 = true then (remontoirlaw18_stays.l0 k1 l0 l1 (wrap64 (x5_1 + 1))) else (some false)))) = some r := H
         have A13 := Aside0.mk A130
         clear A130
         replace H := Option.bind_eq_some_iff.mp H
         obtain ⟨⟨t349, t352, t353⟩, A140, H⟩ := H
         replace H : ((remontoirref03_Same.f k1 t343 t346 t347 t349 t352 t353).bind fun t354 => (if t354 = true then (remontoirlaw18_stays.l0 k1 l0 l1 (wrap64 (x5_1 + 1))) else (some false))) = some r := H
         have A14 := Aside0.mk A140
         clear A140
         replace H := Option.bind_eq_some_iff.mp H
         obtain ⟨t354, A150, H⟩ := H
         replace H : (if t354 = true then (remontoirlaw18_stays.l0 k1 l0 l1 (wrap64 (x5_1 + 1))) else (some false)) = some r := H
         have A15 := Aside0.mk A150
         clear A150
         by_cases c16 : t354 = true
         ·
          subst c16
          have H1 : (remontoirlaw18_stays.l0 k1 l0 l1 (wrap64 (x5_1 + 1))) = some r := by rw [if_pos rfl] at H; exact H
          clear H
          have H := H1
          clear H1
          have H' := Aside0.mk H
          clear H
          try go_wp2
          have n0_ := Aside0.mk (below_drew1 HB.out)
          clear HB; have HB := n0_; clear n0_
          have p327 : 0 ≤ (x5_1 : Int) := of_decide_eq_true (by (with_reducible assumption))
          have q327 : x5_1 < (l0.length : Int) := of_decide_eq_true (by (with_reducible assumption))
          obtain ⟨ad327, A327_3, c327_3, A327_6, c327_6, e327, hx327_0, hx327_1, hx327_2, hx327_3, hx327_4, hx327_5, hx327_6, hx327_7, hx327_8, hl327_3, hi327_3, hl327_6, hi327_6⟩ := at_T76 HR0.out x5_1 p327 q327
          have hw327_8 := hx327_8
          have hw327_7 := hx327_7
          have hw327_6 := hx327_6
          have hw327_5 := hx327_5
          have hw327_4 := hx327_4
          have hw327_3 := hx327_3
          have hw327_2 := hx327_2
          have hw327_1 := hx327_1
          have hw327_0 := hx327_0
          cases e327
          replace hx327_0 := bc_ HB.out hx327_0
          replace hx327_1 := bc_ HB.out hx327_1
          replace hx327_2 := bc_ HB.out hx327_2
          replace hx327_3 := bc_ HB.out hx327_3
          replace hx327_4 := bc_ HB.out hx327_4
          replace hx327_5 := bc_ HB.out hx327_5
          replace hx327_6 := bc_ HB.out hx327_6
          replace hx327_7 := bc_ HB.out hx327_7
          replace hx327_8 := bc_ HB.out hx327_8
          have HR327_3 := Aside0.mk hi327_3
          have HC327_3 := Aside0.mk hl327_3
          clear hi327_3 hl327_3
          have HR327_6 := Aside0.mk hi327_6
          have HC327_6 := Aside0.mk hl327_6
          clear hi327_6 hl327_6
          replace p327 := eq_true p327
          replace q327 := eq_true q327
          have p328 : 0 ≤ (x5_1 : Int) := of_decide_eq_true (by (with_reducible assumption))
          have q328 : x5_1 < (l1.length : Int) := of_decide_eq_true (by (with_reducible assumption))
          obtain ⟨ad328, A328_3, c328_3, A328_6, c328_6, e328, hx328_0, hx328_1, hx328_2, hx328_3, hx328_4, hx328_5, hx328_6, hx328_7, hx328_8, hl328_3, hi328_3, hl328_6, hi328_6⟩ := at_T76 HR1.out x5_1 p328 q328
          have hw328_8 := hx328_8
          have hw328_7 := hx328_7
          have hw328_6 := hx328_6
          have hw328_5 := hx328_5
          have hw328_4 := hx328_4
          have hw328_3 := hx328_3
          have hw328_2 := hx328_2
          have hw328_1 := hx328_1
          have hw328_0 := hx328_0
          cases e328
          replace hx328_0 := bc_ HB.out hx328_0
          replace hx328_1 := bc_ HB.out hx328_1
          replace hx328_2 := bc_ HB.out hx328_2
          replace hx328_3 := bc_ HB.out hx328_3
          replace hx328_4 := bc_ HB.out hx328_4
          replace hx328_5 := bc_ HB.out hx328_5
          replace hx328_6 := bc_ HB.out hx328_6
          replace hx328_7 := bc_ HB.out hx328_7
          replace hx328_8 := bc_ HB.out hx328_8
          have HR328_3 := Aside0.mk hi328_3
          have HC328_3 := Aside0.mk hl328_3
          clear hi328_3 hl328_3
          have HR328_6 := Aside0.mk hi328_6
          have HC328_6 := Aside0.mk hl328_6
          clear hi328_6 hl328_6
          replace p328 := eq_true p328
          replace q328 := eq_true q328
          have p329 : 0 ≤ (x5_1 : Int) := of_decide_eq_true (by (with_reducible assumption))
          have q329 : x5_1 < (l0.length : Int) := of_decide_eq_true (by (with_reducible assumption))
          obtain ⟨ad329, A329_3, c329_3, A329_6, c329_6, e329, hx329_0, hx329_1, hx329_2, hx329_3, hx329_4, hx329_5, hx329_6, hx329_7, hx329_8, hl329_3, hi329_3, hl329_6, hi329_6⟩ := at_T76 HR0.out x5_1 p329 q329
          have hw329_8 := hx329_8
          have hw329_7 := hx329_7
          have hw329_6 := hx329_6
          have hw329_5 := hx329_5
          have hw329_4 := hx329_4
          have hw329_3 := hx329_3
          have hw329_2 := hx329_2
          have hw329_1 := hx329_1
          have hw329_0 := hx329_0
          obtain rfl : ad327 = ad329 := (by injection e329)
          replace hx329_0 := bc_ HB.out hx329_0
          replace hx329_1 := bc_ HB.out hx329_1
          replace hx329_2 := bc_ HB.out hx329_2
          replace hx329_3 := bc_ HB.out hx329_3
          replace hx329_4 := bc_ HB.out hx329_4
          replace hx329_5 := bc_ HB.out hx329_5
          replace hx329_6 := bc_ HB.out hx329_6
          replace hx329_7 := bc_ HB.out hx329_7
          replace hx329_8 := bc_ HB.out hx329_8
          have HR329_3 := Aside0.mk hi329_3
          have HC329_3 := Aside0.mk hl329_3
          clear hi329_3 hl329_3
          have HR329_6 := Aside0.mk hi329_6
          have HC329_6 := Aside0.mk hl329_6
          clear hi329_6 hl329_6
          replace p329 := eq_true p329
          replace q329 := eq_true q329
          have ea_ := Option.some.inj (hx327_3.symm.trans hx329_3)
          injection ea_ with ea_ en_ ec_
          subst ea_
          subst ec_
          clear en_
          have ea_ := Option.some.inj (hx327_6.symm.trans hx329_6)
          injection ea_ with ea_ en_ ec_
          subst ea_
          subst ec_
          clear en_
          have p335 : 0 ≤ (x5_1 : Int) := of_decide_eq_true (by (with_reducible assumption))
          have q335 : x5_1 < (l1.length : Int) := of_decide_eq_true (by (with_reducible assumption))
          obtain ⟨ad335, A335_3, c335_3, A335_6, c335_6, e335, hx335_0, hx335_1, hx335_2, hx335_3, hx335_4, hx335_5, hx335_6, hx335_7, hx335_8, hl335_3, hi335_3, hl335_6, hi335_6⟩ := at_T76 HR1.out x5_1 p335 q335
          have hw335_8 := hx335_8
          have hw335_7 := hx335_7
          have hw335_6 := hx335_6
          have hw335_5 := hx335_5
          have hw335_4 := hx335_4
          have hw335_3 := hx335_3
          have hw335_2 := hx335_2
          have hw335_1 := hx335_1
          have hw335_0 := hx335_0
          obtain rfl : ad328 = ad335 := (by injection e335)
          replace hx335_0 := bc_ HB.out hx335_0
          replace hx335_1 := bc_ HB.out hx335_1
          replace hx335_2 := bc_ HB.out hx335_2
          replace hx335_3 := bc_ HB.out hx335_3
          replace hx335_4 := bc_ HB.out hx335_4
          replace hx335_5 := bc_ HB.out hx335_5
          replace hx335_6 := bc_ HB.out hx335_6
          replace hx335_7 := bc_ HB.out hx335_7
          replace hx335_8 := bc_ HB.out hx335_8
          have HR335_3 := Aside0.mk hi335_3
          have HC335_3 := Aside0.mk hl335_3
          clear hi335_3 hl335_3
          have HR335_6 := Aside0.mk hi335_6
          have HC335_6 := Aside0.mk hl335_6
          clear hi335_6 hl335_6
          replace p335 := eq_true p335
          replace q335 := eq_true q335
          have ea_ := Option.some.inj (hx328_3.symm.trans hx335_3)
          injection ea_ with ea_ en_ ec_
          subst ea_
          subst ec_
          clear en_
          have ea_ := Option.some.inj (hx328_6.symm.trans hx335_6)
          injection ea_ with ea_ en_ ec_
          subst ea_
          subst ec_
          clear en_
          have p342 : 0 ≤ (x5_1 : Int) := of_decide_eq_true (by (with_reducible assumption))
          have q342 : x5_1 < (l0.length : Int) := of_decide_eq_true (by (with_reducible assumption))
          obtain ⟨ad342, A342_3, c342_3, A342_6, c342_6, e342, hx342_0, hx342_1, hx342_2, hx342_3, hx342_4, hx342_5, hx342_6, hx342_7, hx342_8, hl342_3, hi342_3, hl342_6, hi342_6⟩ := at_T76 HR0.out x5_1 p342 q342
          have hw342_8 := hx342_8
          have hw342_7 := hx342_7
          have hw342_6 := hx342_6
          have hw342_5 := hx342_5
          have hw342_4 := hx342_4
          have hw342_3 := hx342_3
          have hw342_2 := hx342_2
          have hw342_1 := hx342_1
          have hw342_0 := hx342_0
          obtain rfl : ad327 = ad342 := (by injection e342)
          replace hx342_0 := bc_ HB.out hx342_0
          replace hx342_1 := bc_ HB.out hx342_1
          replace hx342_2 := bc_ HB.out hx342_2
          replace hx342_3 := bc_ HB.out hx342_3
          replace hx342_4 := bc_ HB.out hx342_4
          replace hx342_5 := bc_ HB.out hx342_5
          replace hx342_6 := bc_ HB.out hx342_6
          replace hx342_7 := bc_ HB.out hx342_7
          replace hx342_8 := bc_ HB.out hx342_8
          have HR342_3 := Aside0.mk hi342_3
          have HC342_3 := Aside0.mk hl342_3
          clear hi342_3 hl342_3
          have HR342_6 := Aside0.mk hi342_6
          have HC342_6 := Aside0.mk hl342_6
          clear hi342_6 hl342_6
          replace p342 := eq_true p342
          replace q342 := eq_true q342
          have ea_ := Option.some.inj (hx327_3.symm.trans hx342_3)
          injection ea_ with ea_ en_ ec_
          subst ea_
          subst ec_
          clear en_
          have ea_ := Option.some.inj (hx327_6.symm.trans hx342_6)
          injection ea_ with ea_ en_ ec_
          subst ea_
          subst ec_
          clear en_
          have p348 : 0 ≤ (x5_1 : Int) := of_decide_eq_true (by (with_reducible assumption))
          have q348 : x5_1 < (l1.length : Int) := of_decide_eq_true (by (with_reducible assumption))
          obtain ⟨ad348, A348_3, c348_3, A348_6, c348_6, e348, hx348_0, hx348_1, hx348_2, hx348_3, hx348_4, hx348_5, hx348_6, hx348_7, hx348_8, hl348_3, hi348_3, hl348_6, hi348_6⟩ := at_T76 HR1.out x5_1 p348 q348
          have hw348_8 := hx348_8
          have hw348_7 := hx348_7
          have hw348_6 := hx348_6
          have hw348_5 := hx348_5
          have hw348_4 := hx348_4
          have hw348_3 := hx348_3
          have hw348_2 := hx348_2
          have hw348_1 := hx348_1
          have hw348_0 := hx348_0
          obtain rfl : ad328 = ad348 := (by injection e348)
          replace hx348_0 := bc_ HB.out hx348_0
          replace hx348_1 := bc_ HB.out hx348_1
          replace hx348_2 := bc_ HB.out hx348_2
          replace hx348_3 := bc_ HB.out hx348_3
          replace hx348_4 := bc_ HB.out hx348_4
          replace hx348_5 := bc_ HB.out hx348_5
          replace hx348_6 := bc_ HB.out hx348_6
          replace hx348_7 := bc_ HB.out hx348_7
          replace hx348_8 := bc_ HB.out hx348_8
          have HR348_3 := Aside0.mk hi348_3
          have HC348_3 := Aside0.mk hl348_3
          clear hi348_3 hl348_3
          have HR348_6 := Aside0.mk hi348_6
          have HC348_6 := Aside0.mk hl348_6
          clear hi348_6 hl348_6
          replace p348 := eq_true p348
          replace q348 := eq_true q348
          have ea_ := Option.some.inj (hx328_3.symm.trans hx348_3)
          injection ea_ with ea_ en_ ec_
          subst ea_
          subst ec_
          clear en_
          have ea_ := Option.some.inj (hx328_6.symm.trans hx348_6)
          injection ea_ with ea_ en_ ec_
          subst ea_
          subst ec_
          clear en_
          refine start_ (n := 43) (S := fun w' => hc9_ w' (ad327.add ((x5_1).toNat * 9)) (.int .i64 ((rd_T76 l0 x5_1).f0.f0)) (.int .i64 ((rd_T76 l0 x5_1).f0.f1)) (.int .i64 ((rd_T76 l0 x5_1).f0.f2)) (.slice A327_3 ((rd_T76 l0 x5_1).f1.f0).length c327_3) (.int .i64 ((rd_T76 l0 x5_1).f1.f1)) (.int .i64 ((rd_T76 l0 x5_1).f1.f2)) (.slice A327_6 ((rd_T76 l0 x5_1).f2.f0).length c327_6) (.int .i64 ((rd_T76 l0 x5_1).f2.f1)) (.int .i64 ((rd_T76 l0 x5_1).f2.f2)) (hc9_ w' (ad328.add ((x5_1).toNat * 9)) (.int .i64 ((rd_T76 l1 x5_1).f0.f0)) (.int .i64 ((rd_T76 l1 x5_1).f0.f1)) (.int .i64 ((rd_T76 l1 x5_1).f0.f2)) (.slice A328_3 ((rd_T76 l1 x5_1).f1.f0).length c328_3) (.int .i64 ((rd_T76 l1 x5_1).f1.f1)) (.int .i64 ((rd_T76 l1 x5_1).f1.f2)) (.slice A328_6 ((rd_T76 l1 x5_1).f2.f0).length c328_6) (.int .i64 ((rd_T76 l1 x5_1).f2.f1)) (.int .i64 ((rd_T76 l1 x5_1).f2.f2)) (hc9_ w' (ad327.add ((x5_1).toNat * 9)) (.int .i64 ((rd_T76 l0 x5_1).f0.f0)) (.int .i64 ((rd_T76 l0 x5_1).f0.f1)) (.int .i64 ((rd_T76 l0 x5_1).f0.f2)) (.slice A327_3 ((rd_T76 l0 x5_1).f1.f0).length c327_3) (.int .i64 ((rd_T76 l0 x5_1).f1.f1)) (.int .i64 ((rd_T76 l0 x5_1).f1.f2)) (.slice A327_6 ((rd_T76 l0 x5_1).f2.f0).length c327_6) (.int .i64 ((rd_T76 l0 x5_1).f2.f1)) (.int .i64 ((rd_T76 l0 x5_1).f2.f2)) (hc9_ w' (ad328.add ((x5_1).toNat * 9)) (.int .i64 ((rd_T76 l1 x5_1).f0.f0)) (.int .i64 ((rd_T76 l1 x5_1).f0.f1)) (.int .i64 ((rd_T76 l1 x5_1).f0.f2)) (.slice A328_3 ((rd_T76 l1 x5_1).f1.f0).length c328_3) (.int .i64 ((rd_T76 l1 x5_1).f1.f1)) (.int .i64 ((rd_T76 l1 x5_1).f1.f2)) (.slice A328_6 ((rd_T76 l1 x5_1).f2.f0).length c328_6) (.int .i64 ((rd_T76 l1 x5_1).f2.f1)) (.int .i64 ((rd_T76 l1 x5_1).f2.f2)) (hc9_ w' (ad327.add ((x5_1).toNat * 9)) (.int .i64 ((rd_T76 l0 x5_1).f0.f0)) (.int .i64 ((rd_T76 l0 x5_1).f0.f1)) (.int .i64 ((rd_T76 l0 x5_1).f0.f2)) (.slice A327_3 ((rd_T76 l0 x5_1).f1.f0).length c327_3) (.int .i64 ((rd_T76 l0 x5_1).f1.f1)) (.int .i64 ((rd_T76 l0 x5_1).f1.f2)) (.slice A327_6 ((rd_T76 l0 x5_1).f2.f0).length c327_6) (.int .i64 ((rd_T76 l0 x5_1).f2.f1)) (.int .i64 ((rd_T76 l0 x5_1).f2.f2)) (he9_ w' (ad328.add ((x5_1).toNat * 9)) (.int .i64 ((rd_T76 l1 x5_1).f0.f0)) (.int .i64 ((rd_T76 l1 x5_1).f0.f1)) (.int .i64 ((rd_T76 l1 x5_1).f0.f2)) (.slice A328_3 ((rd_T76 l1 x5_1).f1.f0).length c328_3) (.int .i64 ((rd_T76 l1 x5_1).f1.f1)) (.int .i64 ((rd_T76 l1 x5_1).f1.f2)) (.slice A328_6 ((rd_T76 l1 x5_1).f2.f0).length c328_6) (.int .i64 ((rd_T76 l1 x5_1).f2.f1)) (.int .i64 ((rd_T76 l1 x5_1).f2.f2)))))))) (ds := []) #[false, false, false, false, false, false, false, false, false, false, false, false, false, false, false, false, false, false, false, false, false, false, false, false, false, false, false, false, false, false, false, false, false, false, false, false, false, false, false, false, false, false, false] (by kernel_rfl) rfl rfl ⟨bc_ HB.out hw327_0, bc_ HB.out hw327_1, bc_ HB.out hw327_2, bc_ HB.out hw327_3, bc_ HB.out hw327_4, bc_ HB.out hw327_5, bc_ HB.out hw327_6, bc_ HB.out hw327_7, bc_ HB.out hw327_8, bc_ HB.out hw328_0, bc_ HB.out hw328_1, bc_ HB.out hw328_2, bc_ HB.out hw328_3, bc_ HB.out hw328_4, bc_ HB.out hw328_5, bc_ HB.out hw328_6, bc_ HB.out hw328_7, bc_ HB.out hw328_8, bc_ HB.out hw329_0, bc_ HB.out hw329_1, bc_ HB.out hw329_2, bc_ HB.out hw329_3, bc_ HB.out hw329_4, bc_ HB.out hw329_5, bc_ HB.out hw329_6, bc_ HB.out hw329_7, bc_ HB.out hw329_8, bc_ HB.out hw335_0, bc_ HB.out hw335_1, bc_ HB.out hw335_2, bc_ HB.out hw335_3, bc_ HB.out hw335_4, bc_ HB.out hw335_5, bc_ HB.out hw335_6, bc_ HB.out hw335_7, bc_ HB.out hw335_8, bc_ HB.out hw342_0, bc_ HB.out hw342_1, bc_ HB.out hw342_2, bc_ HB.out hw342_3, bc_ HB.out hw342_4, bc_ HB.out hw342_5, bc_ HB.out hw342_6, bc_ HB.out hw342_7, bc_ HB.out hw342_8, bc_ HB.out hw348_0, bc_ HB.out hw348_1, bc_ HB.out hw348_2, bc_ HB.out hw348_3, bc_ HB.out hw348_4, bc_ HB.out hw348_5, bc_ HB.out hw348_6, bc_ HB.out hw348_7, bc_ HB.out hw348_8⟩ (fun hHeld => ?_); refine with_tabW remontoirlaw18_stays.tab6 remontoirlaw18_stays.bits6 (fun HT_ HW_ => ?_)
          generalize wr.drew = w17 at HB HR327_3 HR327_6 HR328_3 HR328_6 HR329_3 HR329_6 HR335_3 HR335_6 HR342_3 HR342_6 HR348_3 HR348_6 hx327_0 hx327_1 hx327_2 hx327_3 hx327_4 hx327_5 hx327_6 hx327_7 hx327_8 hx328_0 hx328_1 hx328_2 hx328_3 hx328_4 hx328_5 hx328_6 hx328_7 hx328_8 hx329_0 hx329_1 hx329_2 hx329_3 hx329_4 hx329_5 hx329_6 hx329_7 hx329_8 hx335_0 hx335_1 hx335_2 hx335_3 hx335_4 hx335_5 hx335_6 hx335_7 hx335_8 hx342_0 hx342_1 hx342_2 hx342_3 hx342_4 hx342_5 hx342_6 hx342_7 hx342_8 hx348_0 hx348_1 hx348_2 hx348_3 hx348_4 hx348_5 hx348_6 hx348_7 hx348_8 hHeld ⊢
          refine pa_ 0 17 (bm 43 0x1) HT_ (h := ?_)
          refine pa_ 1 18 (bm 43 0x3) HT_ (h := ?_)
          refine pa_ 2 19 (bm 43 0x7) HT_ (h := ?_)
          refine pa_ 3 20 (bm 43 0xf) HT_ (h := ?_)
          refine pa_ 5 22 (bm 43 0x2f) HT_ (h := ?_)
          refine pa_ 6 23 (bm 43 0x6f) HT_ (h := ?_)
          refine pa_ 7 24 (bm 43 0xef) HT_ (h := ?_)
          refine pa_ 8 25 (bm 43 0x1ef) HT_ (h := ?_)
          refine take_ (i := 4) (N := some 21) (v := ?_) (a' := ?_) (bm 43 0x1ff) rfl rfl (take_ofW HT_.out HW_.out (by kernel_rfl)) (fun _ _ _ h => h) (Or.inl ⟨by rfl, ?_⟩) hHeld ?_ ?_
          rotate_left
          ·
           rintro w' ⟨s0, s1, s2, s3, s4, s5, s6, s7, s8, s9, s10, s11, s12, s13, s14, s15, s16, s17, s18, s19, s20, s21, s22, s23, s24, s25, s26, s27, s28, s29, s30, s31, s32, s33, s34, s35, s36, s37, s38, s39, s40, s41, s42, s43, s44, s45, s46, s47, s48, s49, s50, s51, s52, s53⟩
           go_simp
           with_reducible rfl
          rotate_left
          ·
           simp only [Act.put, sbA, sbB, sbC, i64_w, i32_w]
           rfl
          refine take_ (i := 9) (N := some 26) (v := ?_) (a' := ?_) (bm 43 0x3ff) rfl rfl (take_ofW HT_.out HW_.out (by kernel_rfl)) (fun _ _ _ h => h) (Or.inl ⟨by rfl, ?_⟩) hHeld ?_ ?_
          rotate_left
          ·
           rintro w' ⟨s0, s1, s2, s3, s4, s5, s6, s7, s8, s9, s10, s11, s12, s13, s14, s15, s16, s17, s18, s19, s20, s21, s22, s23, s24, s25, s26, s27, s28, s29, s30, s31, s32, s33, s34, s35, s36, s37, s38, s39, s40, s41, s42, s43, s44, s45, s46, s47, s48, s49, s50, s51, s52, s53⟩
           go_simp
           with_reducible rfl
          rotate_left
          ·
           simp only [Act.put, sbA, sbB, sbC, i64_w, i32_w]
           rfl
          refine pa_ 10 27 (bm 43 0x7ff) HT_ (h := ?_)
          refine pa_ 11 28 (bm 43 0xfff) HT_ (h := ?_)
          refine pa_ 12 29 (bm 43 0x1fff) HT_ (h := ?_)
          refine pa_ 13 30 (bm 43 0x3fff) HT_ (h := ?_)
          refine pa_ 14 31 (bm 43 0x7fff) HT_ (h := ?_)
          refine pa_ 15 32 (bm 43 0xffff) HT_ (h := ?_)
          refine pa_ 18 35 (bm 43 0x4ffff) HT_ (h := ?_)
          refine pa_ 19 36 (bm 43 0xcffff) HT_ (h := ?_)
          refine pa_ 20 37 (bm 43 0x1cffff) HT_ (h := ?_)
          refine pa_ 21 38 (bm 43 0x3cffff) HT_ (h := ?_)
          refine take_ (i := 16) (N := some 33) (v := ?_) (a' := ?_) (bm 43 0x3dffff) rfl rfl (take_ofW HT_.out HW_.out (by kernel_rfl)) (fun _ _ _ h => h) (Or.inl ⟨by rfl, ?_⟩) hHeld ?_ ?_
          rotate_left
          ·
           rintro w' ⟨s0, s1, s2, s3, s4, s5, s6, s7, s8, s9, s10, s11, s12, s13, s14, s15, s16, s17, s18, s19, s20, s21, s22, s23, s24, s25, s26, s27, s28, s29, s30, s31, s32, s33, s34, s35, s36, s37, s38, s39, s40, s41, s42, s43, s44, s45, s46, s47, s48, s49, s50, s51, s52, s53⟩
           go_simp
           with_reducible rfl
          rotate_left
          ·
           simp only [Act.put, sbA, sbB, sbC, i64_w, i32_w]
           rfl
          refine take_ (i := 22) (N := some 39) (v := ?_) (a' := ?_) (bm 43 0x7dffff) rfl rfl (take_ofW HT_.out HW_.out (by kernel_rfl)) (fun _ _ _ h => h) (Or.inl ⟨by rfl, ?_⟩) hHeld ?_ ?_
          rotate_left
          ·
           rintro w' ⟨s0, s1, s2, s3, s4, s5, s6, s7, s8, s9, s10, s11, s12, s13, s14, s15, s16, s17, s18, s19, s20, s21, s22, s23, s24, s25, s26, s27, s28, s29, s30, s31, s32, s33, s34, s35, s36, s37, s38, s39, s40, s41, s42, s43, s44, s45, s46, s47, s48, s49, s50, s51, s52, s53⟩
           go_simp
           with_reducible rfl
          rotate_left
          ·
           simp only [Act.put, sbA, sbB, sbC, i64_w, i32_w]
           rfl
          refine one_ (i := 17) (N := some 34) (bm 43 0x7fffff) rfl rfl (one_of HT_.out (by kernel_rfl)) (by decide) (fun K hK => ?_)
          refine goes_ Try.func15 (by kernel_rfl) rfl #[.agg #[.slice A327_3 ((rd_T76 l0 x5_1).f1.f0).length c327_3, .int .i64 ((rd_T76 l0 x5_1).f1.f1), .int .i64 ((rd_T76 l0 x5_1).f1.f2)]] (by rfl) rfl rfl (by (try simp only [List.map_toArray, List.map_cons, List.map_nil]); rfl) ?_
          with_reducible refine (remontoirlaw03_As.calls (fun k_ => k_ < w.heap.size) _ _ ((rd_T76 l0 x5_1).f1.f0) ((rd_T76 l0 x5_1).f1.f1) ((rd_T76 l0 x5_1).f1.f2) t330 t333 t334 _ ?side1 A9.out).mono ?_
          (case side1 => exact Kd.V_mk HC329_3.out (Kd.F_below (Kd.C_F (Kd.heap_int .i64) HR329_3.out) HB.out))
          rintro e w18 ⟨v331, rfl, ho0, hb⟩
          refine ⟨_, rfl, ?_⟩
          have n0_ := Aside0.mk (Kd.V_lower (Kd.V_mono (ok' := fun k_ => True) ho0 (fun k_ hk_ => trivial)) (below_size HB.out))
          have HO332 := n0_; clear n0_; replace HB := hb_ HB hb
          (try clear hb)
          (try clear hb2)
          (try clear hk)
          (try clear hi)
          (try clear ho0)
          refine hK.out _ _ ⟨bc_ HB.out hw327_0, bc_ HB.out hw327_1, bc_ HB.out hw327_2, bc_ HB.out hw327_3, bc_ HB.out hw327_4, bc_ HB.out hw327_5, bc_ HB.out hw327_6, bc_ HB.out hw327_7, bc_ HB.out hw327_8, bc_ HB.out hw328_0, bc_ HB.out hw328_1, bc_ HB.out hw328_2, bc_ HB.out hw328_3, bc_ HB.out hw328_4, bc_ HB.out hw328_5, bc_ HB.out hw328_6, bc_ HB.out hw328_7, bc_ HB.out hw328_8, bc_ HB.out hw329_0, bc_ HB.out hw329_1, bc_ HB.out hw329_2, bc_ HB.out hw329_3, bc_ HB.out hw329_4, bc_ HB.out hw329_5, bc_ HB.out hw329_6, bc_ HB.out hw329_7, bc_ HB.out hw329_8, bc_ HB.out hw335_0, bc_ HB.out hw335_1, bc_ HB.out hw335_2, bc_ HB.out hw335_3, bc_ HB.out hw335_4, bc_ HB.out hw335_5, bc_ HB.out hw335_6, bc_ HB.out hw335_7, bc_ HB.out hw335_8, bc_ HB.out hw342_0, bc_ HB.out hw342_1, bc_ HB.out hw342_2, bc_ HB.out hw342_3, bc_ HB.out hw342_4, bc_ HB.out hw342_5, bc_ HB.out hw342_6, bc_ HB.out hw342_7, bc_ HB.out hw342_8, bc_ HB.out hw348_0, bc_ HB.out hw348_1, bc_ HB.out hw348_2, bc_ HB.out hw348_3, bc_ HB.out hw348_4, bc_ HB.out hw348_5, bc_ HB.out hw348_6, bc_ HB.out hw348_7, bc_ HB.out hw348_8⟩ (fun hHeld => ?_)
          clear hK K
          refine nm_ 34 (h := ?_)
          refine one_ (i := 23) (N := some 40) (bm 43 0xffffff) rfl rfl (one_of HT_.out (by kernel_rfl)) (by decide) (fun K hK => ?_)
          refine goes_ Try.func15 (by kernel_rfl) rfl #[.agg #[.slice A328_3 ((rd_T76 l1 x5_1).f1.f0).length c328_3, .int .i64 ((rd_T76 l1 x5_1).f1.f1), .int .i64 ((rd_T76 l1 x5_1).f1.f2)]] (by rfl) rfl rfl (by (try simp only [List.map_toArray, List.map_cons, List.map_nil]); rfl) ?_
          with_reducible refine (remontoirlaw03_As.calls (fun k_ => k_ < w.heap.size) _ _ ((rd_T76 l1 x5_1).f1.f0) ((rd_T76 l1 x5_1).f1.f1) ((rd_T76 l1 x5_1).f1.f2) t336 t339 t340 _ ?side1 A10.out).mono ?_
          (case side1 => exact Kd.V_mk HC335_3.out (Kd.F_below (Kd.C_F (Kd.heap_int .i64) HR335_3.out) HB.out))
          rintro e w19 ⟨v337, rfl, ho0, hb⟩
          refine ⟨_, rfl, ?_⟩
          have n1_ := Aside0.mk (Kd.V_lower (Kd.V_mono (ok' := fun k_ => True) ho0 (fun k_ hk_ => trivial)) (below_size HB.out))
          have HO338 := n1_; clear n1_; replace HO332 := vb_ HO332 hb; replace HB := hb_ HB hb
          (try clear hb)
          (try clear hb2)
          (try clear hk)
          (try clear hi)
          (try clear ho0)
          obtain ⟨Ao20, co20, eo20⟩ := Kd.V_slice HO332.out
          ((subst eo20))
          obtain ⟨Ao21, co21, eo21⟩ := Kd.V_slice HO338.out
          ((subst eo21))
          refine hK.out _ _ ⟨bc_ HB.out hw327_0, bc_ HB.out hw327_1, bc_ HB.out hw327_2, bc_ HB.out hw327_3, bc_ HB.out hw327_4, bc_ HB.out hw327_5, bc_ HB.out hw327_6, bc_ HB.out hw327_7, bc_ HB.out hw327_8, bc_ HB.out hw328_0, bc_ HB.out hw328_1, bc_ HB.out hw328_2, bc_ HB.out hw328_3, bc_ HB.out hw328_4, bc_ HB.out hw328_5, bc_ HB.out hw328_6, bc_ HB.out hw328_7, bc_ HB.out hw328_8, bc_ HB.out hw329_0, bc_ HB.out hw329_1, bc_ HB.out hw329_2, bc_ HB.out hw329_3, bc_ HB.out hw329_4, bc_ HB.out hw329_5, bc_ HB.out hw329_6, bc_ HB.out hw329_7, bc_ HB.out hw329_8, bc_ HB.out hw335_0, bc_ HB.out hw335_1, bc_ HB.out hw335_2, bc_ HB.out hw335_3, bc_ HB.out hw335_4, bc_ HB.out hw335_5, bc_ HB.out hw335_6, bc_ HB.out hw335_7, bc_ HB.out hw335_8, bc_ HB.out hw342_0, bc_ HB.out hw342_1, bc_ HB.out hw342_2, bc_ HB.out hw342_3, bc_ HB.out hw342_4, bc_ HB.out hw342_5, bc_ HB.out hw342_6, bc_ HB.out hw342_7, bc_ HB.out hw342_8, bc_ HB.out hw348_0, bc_ HB.out hw348_1, bc_ HB.out hw348_2, bc_ HB.out hw348_3, bc_ HB.out hw348_4, bc_ HB.out hw348_5, bc_ HB.out hw348_6, bc_ HB.out hw348_7, bc_ HB.out hw348_8⟩ (fun hHeld => ?_)
          clear hK K
          refine nm_ 40 (h := ?_)
          refine one_ (i := 24) (N := some 41) (bm 43 0x1ffffff) rfl rfl (one_of HT_.out (by kernel_rfl)) (by decide) (fun K hK => ?_)
          refine goes_ Try.func20 (by kernel_rfl) rfl #[.agg #[.slice Ao20 t330.length co20, .int .i64 t333, .int .i64 t334], .agg #[.slice Ao21 t336.length co21, .int .i64 t339, .int .i64 t340]] (by rfl) rfl rfl (by (try simp only [List.map_toArray, List.map_cons, List.map_nil]); rfl) ?_
          with_reducible refine (remontoirref03_Same.calls k1 _ _ t330 t333 t334 _ _ t336 t339 t340 true _ ?side1 ?side2 ?side3 ?side4 A11.out).mono ?_
          (case side1 => repeat ((exact (Kd.V_reads' HO332.out).2.2)))
          (case side2 => exact (Kd.V_reads' HO332.out).2.1)
          (case side3 => repeat ((exact (Kd.V_reads' HO338.out).2.2)))
          (case side4 => exact (Kd.V_reads' HO338.out).2.1)
          rintro e w22 ⟨rfl, hb⟩
          refine ⟨_, rfl, ?_⟩
          replace HO332 := vb_ HO332 hb; replace HO338 := vb_ HO338 hb; replace HB := hb_ HB hb
          (try clear hb)
          (try clear hb2)
          (try clear hk)
          (try clear hi)
          refine hK.out _ _ ⟨bc_ HB.out hw327_0, bc_ HB.out hw327_1, bc_ HB.out hw327_2, bc_ HB.out hw327_3, bc_ HB.out hw327_4, bc_ HB.out hw327_5, bc_ HB.out hw327_6, bc_ HB.out hw327_7, bc_ HB.out hw327_8, bc_ HB.out hw328_0, bc_ HB.out hw328_1, bc_ HB.out hw328_2, bc_ HB.out hw328_3, bc_ HB.out hw328_4, bc_ HB.out hw328_5, bc_ HB.out hw328_6, bc_ HB.out hw328_7, bc_ HB.out hw328_8, bc_ HB.out hw329_0, bc_ HB.out hw329_1, bc_ HB.out hw329_2, bc_ HB.out hw329_3, bc_ HB.out hw329_4, bc_ HB.out hw329_5, bc_ HB.out hw329_6, bc_ HB.out hw329_7, bc_ HB.out hw329_8, bc_ HB.out hw335_0, bc_ HB.out hw335_1, bc_ HB.out hw335_2, bc_ HB.out hw335_3, bc_ HB.out hw335_4, bc_ HB.out hw335_5, bc_ HB.out hw335_6, bc_ HB.out hw335_7, bc_ HB.out hw335_8, bc_ HB.out hw342_0, bc_ HB.out hw342_1, bc_ HB.out hw342_2, bc_ HB.out hw342_3, bc_ HB.out hw342_4, bc_ HB.out hw342_5, bc_ HB.out hw342_6, bc_ HB.out hw342_7, bc_ HB.out hw342_8, bc_ HB.out hw348_0, bc_ HB.out hw348_1, bc_ HB.out hw348_2, bc_ HB.out hw348_3, bc_ HB.out hw348_4, bc_ HB.out hw348_5, bc_ HB.out hw348_6, bc_ HB.out hw348_7, bc_ HB.out hw348_8⟩ (fun hHeld => ?_)
          clear hK K
          refine nm_ 41 (h := ?_)
          refine pa_ 25 42 (bm 43 0x3ffffff) HT_ (h := ?_)
          refine pa_ 26 43 (bm 43 0x7ffffff) HT_ (h := ?_)
          refine pa_ 27 44 (bm 43 0xfffffff) HT_ (h := ?_)
          refine pa_ 28 45 (bm 43 0x1fffffff) HT_ (h := ?_)
          refine pa_ 29 46 (bm 43 0x3fffffff) HT_ (h := ?_)
          refine pa_ 30 47 (bm 43 0x7fffffff) HT_ (h := ?_)
          refine pa_ 31 48 (bm 43 0xffffffff) HT_ (h := ?_)
          refine pa_ 34 51 (bm 43 0x4ffffffff) HT_ (h := ?_)
          refine pa_ 35 52 (bm 43 0xcffffffff) HT_ (h := ?_)
          refine pa_ 36 53 (bm 43 0x1cffffffff) HT_ (h := ?_)
          refine pa_ 37 54 (bm 43 0x3cffffffff) HT_ (h := ?_)
          refine take_ (i := 32) (N := some 49) (v := ?_) (a' := ?_) (bm 43 0x3dffffffff) rfl rfl (take_ofW HT_.out HW_.out (by kernel_rfl)) (fun _ _ _ h => h) (Or.inl ⟨by rfl, ?_⟩) hHeld ?_ ?_
          rotate_left
          ·
           rintro w' ⟨s0, s1, s2, s3, s4, s5, s6, s7, s8, s9, s10, s11, s12, s13, s14, s15, s16, s17, s18, s19, s20, s21, s22, s23, s24, s25, s26, s27, s28, s29, s30, s31, s32, s33, s34, s35, s36, s37, s38, s39, s40, s41, s42, s43, s44, s45, s46, s47, s48, s49, s50, s51, s52, s53⟩
           go_simp
           with_reducible rfl
          rotate_left
          ·
           simp only [Act.put, sbA, sbB, sbC, i64_w, i32_w]
           rfl
          refine take_ (i := 38) (N := some 55) (v := ?_) (a' := ?_) (bm 43 0x7dffffffff) rfl rfl (take_ofW HT_.out HW_.out (by kernel_rfl)) (fun _ _ _ h => h) (Or.inl ⟨by rfl, ?_⟩) hHeld ?_ ?_
          rotate_left
          ·
           rintro w' ⟨s0, s1, s2, s3, s4, s5, s6, s7, s8, s9, s10, s11, s12, s13, s14, s15, s16, s17, s18, s19, s20, s21, s22, s23, s24, s25, s26, s27, s28, s29, s30, s31, s32, s33, s34, s35, s36, s37, s38, s39, s40, s41, s42, s43, s44, s45, s46, s47, s48, s49, s50, s51, s52, s53⟩
           go_simp
           with_reducible rfl
          rotate_left
          ·
           simp only [Act.put, sbA, sbB, sbC, i64_w, i32_w]
           rfl
          refine one_ (i := 33) (N := some 50) (bm 43 0x7fffffffff) rfl rfl (one_of HT_.out (by kernel_rfl)) (by decide) (fun K hK => ?_)
          refine goes_ Try.func15 (by kernel_rfl) rfl #[.agg #[.slice A327_6 ((rd_T76 l0 x5_1).f2.f0).length c327_6, .int .i64 ((rd_T76 l0 x5_1).f2.f1), .int .i64 ((rd_T76 l0 x5_1).f2.f2)]] (by rfl) rfl rfl (by (try simp only [List.map_toArray, List.map_cons, List.map_nil]); rfl) ?_
          with_reducible refine (remontoirlaw03_As.calls (fun k_ => k_ < w.heap.size) _ _ ((rd_T76 l0 x5_1).f2.f0) ((rd_T76 l0 x5_1).f2.f1) ((rd_T76 l0 x5_1).f2.f2) t343 t346 t347 _ ?side1 A13.out).mono ?_
          (case side1 => exact Kd.V_mk HC342_6.out (Kd.F_below (Kd.C_F (Kd.heap_int .i64) HR342_6.out) HB.out))
          rintro e w23 ⟨v344, rfl, ho0, hb⟩
          refine ⟨_, rfl, ?_⟩
          have n2_ := Aside0.mk (Kd.V_lower (Kd.V_mono (ok' := fun k_ => True) ho0 (fun k_ hk_ => trivial)) (below_size HB.out))
          have HO345 := n2_; clear n2_; replace HO332 := vb_ HO332 hb; replace HO338 := vb_ HO338 hb; replace HB := hb_ HB hb
          (try clear hb)
          (try clear hb2)
          (try clear hk)
          (try clear hi)
          (try clear ho0)
          refine hK.out _ _ ⟨bc_ HB.out hw327_0, bc_ HB.out hw327_1, bc_ HB.out hw327_2, bc_ HB.out hw327_3, bc_ HB.out hw327_4, bc_ HB.out hw327_5, bc_ HB.out hw327_6, bc_ HB.out hw327_7, bc_ HB.out hw327_8, bc_ HB.out hw328_0, bc_ HB.out hw328_1, bc_ HB.out hw328_2, bc_ HB.out hw328_3, bc_ HB.out hw328_4, bc_ HB.out hw328_5, bc_ HB.out hw328_6, bc_ HB.out hw328_7, bc_ HB.out hw328_8, bc_ HB.out hw329_0, bc_ HB.out hw329_1, bc_ HB.out hw329_2, bc_ HB.out hw329_3, bc_ HB.out hw329_4, bc_ HB.out hw329_5, bc_ HB.out hw329_6, bc_ HB.out hw329_7, bc_ HB.out hw329_8, bc_ HB.out hw335_0, bc_ HB.out hw335_1, bc_ HB.out hw335_2, bc_ HB.out hw335_3, bc_ HB.out hw335_4, bc_ HB.out hw335_5, bc_ HB.out hw335_6, bc_ HB.out hw335_7, bc_ HB.out hw335_8, bc_ HB.out hw342_0, bc_ HB.out hw342_1, bc_ HB.out hw342_2, bc_ HB.out hw342_3, bc_ HB.out hw342_4, bc_ HB.out hw342_5, bc_ HB.out hw342_6, bc_ HB.out hw342_7, bc_ HB.out hw342_8, bc_ HB.out hw348_0, bc_ HB.out hw348_1, bc_ HB.out hw348_2, bc_ HB.out hw348_3, bc_ HB.out hw348_4, bc_ HB.out hw348_5, bc_ HB.out hw348_6, bc_ HB.out hw348_7, bc_ HB.out hw348_8⟩ (fun hHeld => ?_)
          clear hK K
          refine nm_ 50 (h := ?_)
          refine one_ (i := 39) (N := some 56) (bm 43 0xffffffffff) rfl rfl (one_of HT_.out (by kernel_rfl)) (by decide) (fun K hK => ?_)
          refine goes_ Try.func15 (by kernel_rfl) rfl #[.agg #[.slice A328_6 ((rd_T76 l1 x5_1).f2.f0).length c328_6, .int .i64 ((rd_T76 l1 x5_1).f2.f1), .int .i64 ((rd_T76 l1 x5_1).f2.f2)]] (by rfl) rfl rfl (by (try simp only [List.map_toArray, List.map_cons, List.map_nil]); rfl) ?_
          with_reducible refine (remontoirlaw03_As.calls (fun k_ => k_ < w.heap.size) _ _ ((rd_T76 l1 x5_1).f2.f0) ((rd_T76 l1 x5_1).f2.f1) ((rd_T76 l1 x5_1).f2.f2) t349 t352 t353 _ ?side1 A14.out).mono ?_
          (case side1 => exact Kd.V_mk HC348_6.out (Kd.F_below (Kd.C_F (Kd.heap_int .i64) HR348_6.out) HB.out))
          rintro e w24 ⟨v350, rfl, ho0, hb⟩
          refine ⟨_, rfl, ?_⟩
          have n3_ := Aside0.mk (Kd.V_lower (Kd.V_mono (ok' := fun k_ => True) ho0 (fun k_ hk_ => trivial)) (below_size HB.out))
          have HO351 := n3_; clear n3_; replace HO332 := vb_ HO332 hb; replace HO338 := vb_ HO338 hb; replace HO345 := vb_ HO345 hb; replace HB := hb_ HB hb
          (try clear hb)
          (try clear hb2)
          (try clear hk)
          (try clear hi)
          (try clear ho0)
          obtain ⟨Ao25, co25, eo25⟩ := Kd.V_slice HO345.out
          ((subst eo25))
          obtain ⟨Ao26, co26, eo26⟩ := Kd.V_slice HO351.out
          ((subst eo26))
          refine hK.out _ _ ⟨bc_ HB.out hw327_0, bc_ HB.out hw327_1, bc_ HB.out hw327_2, bc_ HB.out hw327_3, bc_ HB.out hw327_4, bc_ HB.out hw327_5, bc_ HB.out hw327_6, bc_ HB.out hw327_7, bc_ HB.out hw327_8, bc_ HB.out hw328_0, bc_ HB.out hw328_1, bc_ HB.out hw328_2, bc_ HB.out hw328_3, bc_ HB.out hw328_4, bc_ HB.out hw328_5, bc_ HB.out hw328_6, bc_ HB.out hw328_7, bc_ HB.out hw328_8, bc_ HB.out hw329_0, bc_ HB.out hw329_1, bc_ HB.out hw329_2, bc_ HB.out hw329_3, bc_ HB.out hw329_4, bc_ HB.out hw329_5, bc_ HB.out hw329_6, bc_ HB.out hw329_7, bc_ HB.out hw329_8, bc_ HB.out hw335_0, bc_ HB.out hw335_1, bc_ HB.out hw335_2, bc_ HB.out hw335_3, bc_ HB.out hw335_4, bc_ HB.out hw335_5, bc_ HB.out hw335_6, bc_ HB.out hw335_7, bc_ HB.out hw335_8, bc_ HB.out hw342_0, bc_ HB.out hw342_1, bc_ HB.out hw342_2, bc_ HB.out hw342_3, bc_ HB.out hw342_4, bc_ HB.out hw342_5, bc_ HB.out hw342_6, bc_ HB.out hw342_7, bc_ HB.out hw342_8, bc_ HB.out hw348_0, bc_ HB.out hw348_1, bc_ HB.out hw348_2, bc_ HB.out hw348_3, bc_ HB.out hw348_4, bc_ HB.out hw348_5, bc_ HB.out hw348_6, bc_ HB.out hw348_7, bc_ HB.out hw348_8⟩ (fun hHeld => ?_)
          clear hK K
          refine nm_ 56 (h := ?_)
          refine one_ (i := 40) (N := some 57) (bm 43 0x1ffffffffff) rfl rfl (one_of HT_.out (by kernel_rfl)) (by decide) (fun K hK => ?_)
          refine goes_ Try.func20 (by kernel_rfl) rfl #[.agg #[.slice Ao25 t343.length co25, .int .i64 t346, .int .i64 t347], .agg #[.slice Ao26 t349.length co26, .int .i64 t352, .int .i64 t353]] (by rfl) rfl rfl (by (try simp only [List.map_toArray, List.map_cons, List.map_nil]); rfl) ?_
          with_reducible refine (remontoirref03_Same.calls k1 _ _ t343 t346 t347 _ _ t349 t352 t353 true _ ?side1 ?side2 ?side3 ?side4 A15.out).mono ?_
          (case side1 => repeat ((exact (Kd.V_reads' HO345.out).2.2)))
          (case side2 => exact (Kd.V_reads' HO345.out).2.1)
          (case side3 => repeat ((exact (Kd.V_reads' HO351.out).2.2)))
          (case side4 => exact (Kd.V_reads' HO351.out).2.1)
          rintro e w27 ⟨rfl, hb⟩
          refine ⟨_, rfl, ?_⟩
          replace HO332 := vb_ HO332 hb; replace HO338 := vb_ HO338 hb; replace HO345 := vb_ HO345 hb; replace HO351 := vb_ HO351 hb; replace HB := hb_ HB hb
          (try clear hb)
          (try clear hb2)
          (try clear hk)
          (try clear hi)
          refine hK.out _ _ ⟨bc_ HB.out hw327_0, bc_ HB.out hw327_1, bc_ HB.out hw327_2, bc_ HB.out hw327_3, bc_ HB.out hw327_4, bc_ HB.out hw327_5, bc_ HB.out hw327_6, bc_ HB.out hw327_7, bc_ HB.out hw327_8, bc_ HB.out hw328_0, bc_ HB.out hw328_1, bc_ HB.out hw328_2, bc_ HB.out hw328_3, bc_ HB.out hw328_4, bc_ HB.out hw328_5, bc_ HB.out hw328_6, bc_ HB.out hw328_7, bc_ HB.out hw328_8, bc_ HB.out hw329_0, bc_ HB.out hw329_1, bc_ HB.out hw329_2, bc_ HB.out hw329_3, bc_ HB.out hw329_4, bc_ HB.out hw329_5, bc_ HB.out hw329_6, bc_ HB.out hw329_7, bc_ HB.out hw329_8, bc_ HB.out hw335_0, bc_ HB.out hw335_1, bc_ HB.out hw335_2, bc_ HB.out hw335_3, bc_ HB.out hw335_4, bc_ HB.out hw335_5, bc_ HB.out hw335_6, bc_ HB.out hw335_7, bc_ HB.out hw335_8, bc_ HB.out hw342_0, bc_ HB.out hw342_1, bc_ HB.out hw342_2, bc_ HB.out hw342_3, bc_ HB.out hw342_4, bc_ HB.out hw342_5, bc_ HB.out hw342_6, bc_ HB.out hw342_7, bc_ HB.out hw342_8, bc_ HB.out hw348_0, bc_ HB.out hw348_1, bc_ HB.out hw348_2, bc_ HB.out hw348_3, bc_ HB.out hw348_4, bc_ HB.out hw348_5, bc_ HB.out hw348_6, bc_ HB.out hw348_7, bc_ HB.out hw348_8⟩ (fun hHeld => ?_)
          clear hK K
          refine nm_ 57 (h := ?_)
          refine pa_ 41 58 (bm 43 0x3ffffffffff) HT_ (h := ?_)
          refine pa_ 42 59 (bm 43 0x7ffffffffff) HT_ (h := ?_)
          refine done_ (done_of HT_.out (by kernel_rfl)) ?_
          try go_wp2
          go_roundg k1
          case measure => have := HK1.out; omega
          case rel => exact ⟨(wrap64 (x5_1 + 1)), (by rfl), H', ⟨by have := HK1.out; omega⟩, ⟨HB.out⟩⟩
         ·
          replace c16 := Bool.eq_false_iff.mpr c16
          subst c16
          have H1 : (some false) = some r := by rw [if_neg (show ¬ (false = true) by decide)] at H; exact H
          clear H
          have H := H1
          clear H1
          obtain rfl := Option.some.inj H
          try go_wp2
          have n0_ := Aside0.mk (below_drew1 HB.out)
          clear HB; have HB := n0_; clear n0_
          have p327 : 0 ≤ (x5_1 : Int) := of_decide_eq_true (by (with_reducible assumption))
          have q327 : x5_1 < (l0.length : Int) := of_decide_eq_true (by (with_reducible assumption))
          obtain ⟨ad327, A327_3, c327_3, A327_6, c327_6, e327, hx327_0, hx327_1, hx327_2, hx327_3, hx327_4, hx327_5, hx327_6, hx327_7, hx327_8, hl327_3, hi327_3, hl327_6, hi327_6⟩ := at_T76 HR0.out x5_1 p327 q327
          have hw327_8 := hx327_8
          have hw327_7 := hx327_7
          have hw327_6 := hx327_6
          have hw327_5 := hx327_5
          have hw327_4 := hx327_4
          have hw327_3 := hx327_3
          have hw327_2 := hx327_2
          have hw327_1 := hx327_1
          have hw327_0 := hx327_0
          cases e327
          replace hx327_0 := bc_ HB.out hx327_0
          replace hx327_1 := bc_ HB.out hx327_1
          replace hx327_2 := bc_ HB.out hx327_2
          replace hx327_3 := bc_ HB.out hx327_3
          replace hx327_4 := bc_ HB.out hx327_4
          replace hx327_5 := bc_ HB.out hx327_5
          replace hx327_6 := bc_ HB.out hx327_6
          replace hx327_7 := bc_ HB.out hx327_7
          replace hx327_8 := bc_ HB.out hx327_8
          have HR327_3 := Aside0.mk hi327_3
          have HC327_3 := Aside0.mk hl327_3
          clear hi327_3 hl327_3
          have HR327_6 := Aside0.mk hi327_6
          have HC327_6 := Aside0.mk hl327_6
          clear hi327_6 hl327_6
          replace p327 := eq_true p327
          replace q327 := eq_true q327
          have p328 : 0 ≤ (x5_1 : Int) := of_decide_eq_true (by (with_reducible assumption))
          have q328 : x5_1 < (l1.length : Int) := of_decide_eq_true (by (with_reducible assumption))
          obtain ⟨ad328, A328_3, c328_3, A328_6, c328_6, e328, hx328_0, hx328_1, hx328_2, hx328_3, hx328_4, hx328_5, hx328_6, hx328_7, hx328_8, hl328_3, hi328_3, hl328_6, hi328_6⟩ := at_T76 HR1.out x5_1 p328 q328
          have hw328_8 := hx328_8
          have hw328_7 := hx328_7
          have hw328_6 := hx328_6
          have hw328_5 := hx328_5
          have hw328_4 := hx328_4
          have hw328_3 := hx328_3
          have hw328_2 := hx328_2
          have hw328_1 := hx328_1
          have hw328_0 := hx328_0
          cases e328
          replace hx328_0 := bc_ HB.out hx328_0
          replace hx328_1 := bc_ HB.out hx328_1
          replace hx328_2 := bc_ HB.out hx328_2
          replace hx328_3 := bc_ HB.out hx328_3
          replace hx328_4 := bc_ HB.out hx328_4
          replace hx328_5 := bc_ HB.out hx328_5
          replace hx328_6 := bc_ HB.out hx328_6
          replace hx328_7 := bc_ HB.out hx328_7
          replace hx328_8 := bc_ HB.out hx328_8
          have HR328_3 := Aside0.mk hi328_3
          have HC328_3 := Aside0.mk hl328_3
          clear hi328_3 hl328_3
          have HR328_6 := Aside0.mk hi328_6
          have HC328_6 := Aside0.mk hl328_6
          clear hi328_6 hl328_6
          replace p328 := eq_true p328
          replace q328 := eq_true q328
          have p329 : 0 ≤ (x5_1 : Int) := of_decide_eq_true (by (with_reducible assumption))
          have q329 : x5_1 < (l0.length : Int) := of_decide_eq_true (by (with_reducible assumption))
          obtain ⟨ad329, A329_3, c329_3, A329_6, c329_6, e329, hx329_0, hx329_1, hx329_2, hx329_3, hx329_4, hx329_5, hx329_6, hx329_7, hx329_8, hl329_3, hi329_3, hl329_6, hi329_6⟩ := at_T76 HR0.out x5_1 p329 q329
          have hw329_8 := hx329_8
          have hw329_7 := hx329_7
          have hw329_6 := hx329_6
          have hw329_5 := hx329_5
          have hw329_4 := hx329_4
          have hw329_3 := hx329_3
          have hw329_2 := hx329_2
          have hw329_1 := hx329_1
          have hw329_0 := hx329_0
          obtain rfl : ad327 = ad329 := (by injection e329)
          replace hx329_0 := bc_ HB.out hx329_0
          replace hx329_1 := bc_ HB.out hx329_1
          replace hx329_2 := bc_ HB.out hx329_2
          replace hx329_3 := bc_ HB.out hx329_3
          replace hx329_4 := bc_ HB.out hx329_4
          replace hx329_5 := bc_ HB.out hx329_5
          replace hx329_6 := bc_ HB.out hx329_6
          replace hx329_7 := bc_ HB.out hx329_7
          replace hx329_8 := bc_ HB.out hx329_8
          have HR329_3 := Aside0.mk hi329_3
          have HC329_3 := Aside0.mk hl329_3
          clear hi329_3 hl329_3
          have HR329_6 := Aside0.mk hi329_6
          have HC329_6 := Aside0.mk hl329_6
          clear hi329_6 hl329_6
          replace p329 := eq_true p329
          replace q329 := eq_true q329
          have ea_ := Option.some.inj (hx327_3.symm.trans hx329_3)
          injection ea_ with ea_ en_ ec_
          subst ea_
          subst ec_
          clear en_
          have ea_ := Option.some.inj (hx327_6.symm.trans hx329_6)
          injection ea_ with ea_ en_ ec_
          subst ea_
          subst ec_
          clear en_
          have p335 : 0 ≤ (x5_1 : Int) := of_decide_eq_true (by (with_reducible assumption))
          have q335 : x5_1 < (l1.length : Int) := of_decide_eq_true (by (with_reducible assumption))
          obtain ⟨ad335, A335_3, c335_3, A335_6, c335_6, e335, hx335_0, hx335_1, hx335_2, hx335_3, hx335_4, hx335_5, hx335_6, hx335_7, hx335_8, hl335_3, hi335_3, hl335_6, hi335_6⟩ := at_T76 HR1.out x5_1 p335 q335
          have hw335_8 := hx335_8
          have hw335_7 := hx335_7
          have hw335_6 := hx335_6
          have hw335_5 := hx335_5
          have hw335_4 := hx335_4
          have hw335_3 := hx335_3
          have hw335_2 := hx335_2
          have hw335_1 := hx335_1
          have hw335_0 := hx335_0
          obtain rfl : ad328 = ad335 := (by injection e335)
          replace hx335_0 := bc_ HB.out hx335_0
          replace hx335_1 := bc_ HB.out hx335_1
          replace hx335_2 := bc_ HB.out hx335_2
          replace hx335_3 := bc_ HB.out hx335_3
          replace hx335_4 := bc_ HB.out hx335_4
          replace hx335_5 := bc_ HB.out hx335_5
          replace hx335_6 := bc_ HB.out hx335_6
          replace hx335_7 := bc_ HB.out hx335_7
          replace hx335_8 := bc_ HB.out hx335_8
          have HR335_3 := Aside0.mk hi335_3
          have HC335_3 := Aside0.mk hl335_3
          clear hi335_3 hl335_3
          have HR335_6 := Aside0.mk hi335_6
          have HC335_6 := Aside0.mk hl335_6
          clear hi335_6 hl335_6
          replace p335 := eq_true p335
          replace q335 := eq_true q335
          have ea_ := Option.some.inj (hx328_3.symm.trans hx335_3)
          injection ea_ with ea_ en_ ec_
          subst ea_
          subst ec_
          clear en_
          have ea_ := Option.some.inj (hx328_6.symm.trans hx335_6)
          injection ea_ with ea_ en_ ec_
          subst ea_
          subst ec_
          clear en_
          have p342 : 0 ≤ (x5_1 : Int) := of_decide_eq_true (by (with_reducible assumption))
          have q342 : x5_1 < (l0.length : Int) := of_decide_eq_true (by (with_reducible assumption))
          obtain ⟨ad342, A342_3, c342_3, A342_6, c342_6, e342, hx342_0, hx342_1, hx342_2, hx342_3, hx342_4, hx342_5, hx342_6, hx342_7, hx342_8, hl342_3, hi342_3, hl342_6, hi342_6⟩ := at_T76 HR0.out x5_1 p342 q342
          have hw342_8 := hx342_8
          have hw342_7 := hx342_7
          have hw342_6 := hx342_6
          have hw342_5 := hx342_5
          have hw342_4 := hx342_4
          have hw342_3 := hx342_3
          have hw342_2 := hx342_2
          have hw342_1 := hx342_1
          have hw342_0 := hx342_0
          obtain rfl : ad327 = ad342 := (by injection e342)
          replace hx342_0 := bc_ HB.out hx342_0
          replace hx342_1 := bc_ HB.out hx342_1
          replace hx342_2 := bc_ HB.out hx342_2
          replace hx342_3 := bc_ HB.out hx342_3
          replace hx342_4 := bc_ HB.out hx342_4
          replace hx342_5 := bc_ HB.out hx342_5
          replace hx342_6 := bc_ HB.out hx342_6
          replace hx342_7 := bc_ HB.out hx342_7
          replace hx342_8 := bc_ HB.out hx342_8
          have HR342_3 := Aside0.mk hi342_3
          have HC342_3 := Aside0.mk hl342_3
          clear hi342_3 hl342_3
          have HR342_6 := Aside0.mk hi342_6
          have HC342_6 := Aside0.mk hl342_6
          clear hi342_6 hl342_6
          replace p342 := eq_true p342
          replace q342 := eq_true q342
          have ea_ := Option.some.inj (hx327_3.symm.trans hx342_3)
          injection ea_ with ea_ en_ ec_
          subst ea_
          subst ec_
          clear en_
          have ea_ := Option.some.inj (hx327_6.symm.trans hx342_6)
          injection ea_ with ea_ en_ ec_
          subst ea_
          subst ec_
          clear en_
          have p348 : 0 ≤ (x5_1 : Int) := of_decide_eq_true (by (with_reducible assumption))
          have q348 : x5_1 < (l1.length : Int) := of_decide_eq_true (by (with_reducible assumption))
          obtain ⟨ad348, A348_3, c348_3, A348_6, c348_6, e348, hx348_0, hx348_1, hx348_2, hx348_3, hx348_4, hx348_5, hx348_6, hx348_7, hx348_8, hl348_3, hi348_3, hl348_6, hi348_6⟩ := at_T76 HR1.out x5_1 p348 q348
          have hw348_8 := hx348_8
          have hw348_7 := hx348_7
          have hw348_6 := hx348_6
          have hw348_5 := hx348_5
          have hw348_4 := hx348_4
          have hw348_3 := hx348_3
          have hw348_2 := hx348_2
          have hw348_1 := hx348_1
          have hw348_0 := hx348_0
          obtain rfl : ad328 = ad348 := (by injection e348)
          replace hx348_0 := bc_ HB.out hx348_0
          replace hx348_1 := bc_ HB.out hx348_1
          replace hx348_2 := bc_ HB.out hx348_2
          replace hx348_3 := bc_ HB.out hx348_3
          replace hx348_4 := bc_ HB.out hx348_4
          replace hx348_5 := bc_ HB.out hx348_5
          replace hx348_6 := bc_ HB.out hx348_6
          replace hx348_7 := bc_ HB.out hx348_7
          replace hx348_8 := bc_ HB.out hx348_8
          have HR348_3 := Aside0.mk hi348_3
          have HC348_3 := Aside0.mk hl348_3
          clear hi348_3 hl348_3
          have HR348_6 := Aside0.mk hi348_6
          have HC348_6 := Aside0.mk hl348_6
          clear hi348_6 hl348_6
          replace p348 := eq_true p348
          replace q348 := eq_true q348
          have ea_ := Option.some.inj (hx328_3.symm.trans hx348_3)
          injection ea_ with ea_ en_ ec_
          subst ea_
          subst ec_
          clear en_
          have ea_ := Option.some.inj (hx328_6.symm.trans hx348_6)
          injection ea_ with ea_ en_ ec_
          subst ea_
          subst ec_
          clear en_
          refine start_ (n := 43) (S := fun w' => hc9_ w' (ad327.add ((x5_1).toNat * 9)) (.int .i64 ((rd_T76 l0 x5_1).f0.f0)) (.int .i64 ((rd_T76 l0 x5_1).f0.f1)) (.int .i64 ((rd_T76 l0 x5_1).f0.f2)) (.slice A327_3 ((rd_T76 l0 x5_1).f1.f0).length c327_3) (.int .i64 ((rd_T76 l0 x5_1).f1.f1)) (.int .i64 ((rd_T76 l0 x5_1).f1.f2)) (.slice A327_6 ((rd_T76 l0 x5_1).f2.f0).length c327_6) (.int .i64 ((rd_T76 l0 x5_1).f2.f1)) (.int .i64 ((rd_T76 l0 x5_1).f2.f2)) (hc9_ w' (ad328.add ((x5_1).toNat * 9)) (.int .i64 ((rd_T76 l1 x5_1).f0.f0)) (.int .i64 ((rd_T76 l1 x5_1).f0.f1)) (.int .i64 ((rd_T76 l1 x5_1).f0.f2)) (.slice A328_3 ((rd_T76 l1 x5_1).f1.f0).length c328_3) (.int .i64 ((rd_T76 l1 x5_1).f1.f1)) (.int .i64 ((rd_T76 l1 x5_1).f1.f2)) (.slice A328_6 ((rd_T76 l1 x5_1).f2.f0).length c328_6) (.int .i64 ((rd_T76 l1 x5_1).f2.f1)) (.int .i64 ((rd_T76 l1 x5_1).f2.f2)) (hc9_ w' (ad327.add ((x5_1).toNat * 9)) (.int .i64 ((rd_T76 l0 x5_1).f0.f0)) (.int .i64 ((rd_T76 l0 x5_1).f0.f1)) (.int .i64 ((rd_T76 l0 x5_1).f0.f2)) (.slice A327_3 ((rd_T76 l0 x5_1).f1.f0).length c327_3) (.int .i64 ((rd_T76 l0 x5_1).f1.f1)) (.int .i64 ((rd_T76 l0 x5_1).f1.f2)) (.slice A327_6 ((rd_T76 l0 x5_1).f2.f0).length c327_6) (.int .i64 ((rd_T76 l0 x5_1).f2.f1)) (.int .i64 ((rd_T76 l0 x5_1).f2.f2)) (hc9_ w' (ad328.add ((x5_1).toNat * 9)) (.int .i64 ((rd_T76 l1 x5_1).f0.f0)) (.int .i64 ((rd_T76 l1 x5_1).f0.f1)) (.int .i64 ((rd_T76 l1 x5_1).f0.f2)) (.slice A328_3 ((rd_T76 l1 x5_1).f1.f0).length c328_3) (.int .i64 ((rd_T76 l1 x5_1).f1.f1)) (.int .i64 ((rd_T76 l1 x5_1).f1.f2)) (.slice A328_6 ((rd_T76 l1 x5_1).f2.f0).length c328_6) (.int .i64 ((rd_T76 l1 x5_1).f2.f1)) (.int .i64 ((rd_T76 l1 x5_1).f2.f2)) (hc9_ w' (ad327.add ((x5_1).toNat * 9)) (.int .i64 ((rd_T76 l0 x5_1).f0.f0)) (.int .i64 ((rd_T76 l0 x5_1).f0.f1)) (.int .i64 ((rd_T76 l0 x5_1).f0.f2)) (.slice A327_3 ((rd_T76 l0 x5_1).f1.f0).length c327_3) (.int .i64 ((rd_T76 l0 x5_1).f1.f1)) (.int .i64 ((rd_T76 l0 x5_1).f1.f2)) (.slice A327_6 ((rd_T76 l0 x5_1).f2.f0).length c327_6) (.int .i64 ((rd_T76 l0 x5_1).f2.f1)) (.int .i64 ((rd_T76 l0 x5_1).f2.f2)) (he9_ w' (ad328.add ((x5_1).toNat * 9)) (.int .i64 ((rd_T76 l1 x5_1).f0.f0)) (.int .i64 ((rd_T76 l1 x5_1).f0.f1)) (.int .i64 ((rd_T76 l1 x5_1).f0.f2)) (.slice A328_3 ((rd_T76 l1 x5_1).f1.f0).length c328_3) (.int .i64 ((rd_T76 l1 x5_1).f1.f1)) (.int .i64 ((rd_T76 l1 x5_1).f1.f2)) (.slice A328_6 ((rd_T76 l1 x5_1).f2.f0).length c328_6) (.int .i64 ((rd_T76 l1 x5_1).f2.f1)) (.int .i64 ((rd_T76 l1 x5_1).f2.f2)))))))) (ds := []) #[false, false, false, false, false, false, false, false, false, false, false, false, false, false, false, false, false, false, false, false, false, false, false, false, false, false, false, false, false, false, false, false, false, false, false, false, false, false, false, false, false, false, false] (by kernel_rfl) rfl rfl ⟨bc_ HB.out hw327_0, bc_ HB.out hw327_1, bc_ HB.out hw327_2, bc_ HB.out hw327_3, bc_ HB.out hw327_4, bc_ HB.out hw327_5, bc_ HB.out hw327_6, bc_ HB.out hw327_7, bc_ HB.out hw327_8, bc_ HB.out hw328_0, bc_ HB.out hw328_1, bc_ HB.out hw328_2, bc_ HB.out hw328_3, bc_ HB.out hw328_4, bc_ HB.out hw328_5, bc_ HB.out hw328_6, bc_ HB.out hw328_7, bc_ HB.out hw328_8, bc_ HB.out hw329_0, bc_ HB.out hw329_1, bc_ HB.out hw329_2, bc_ HB.out hw329_3, bc_ HB.out hw329_4, bc_ HB.out hw329_5, bc_ HB.out hw329_6, bc_ HB.out hw329_7, bc_ HB.out hw329_8, bc_ HB.out hw335_0, bc_ HB.out hw335_1, bc_ HB.out hw335_2, bc_ HB.out hw335_3, bc_ HB.out hw335_4, bc_ HB.out hw335_5, bc_ HB.out hw335_6, bc_ HB.out hw335_7, bc_ HB.out hw335_8, bc_ HB.out hw342_0, bc_ HB.out hw342_1, bc_ HB.out hw342_2, bc_ HB.out hw342_3, bc_ HB.out hw342_4, bc_ HB.out hw342_5, bc_ HB.out hw342_6, bc_ HB.out hw342_7, bc_ HB.out hw342_8, bc_ HB.out hw348_0, bc_ HB.out hw348_1, bc_ HB.out hw348_2, bc_ HB.out hw348_3, bc_ HB.out hw348_4, bc_ HB.out hw348_5, bc_ HB.out hw348_6, bc_ HB.out hw348_7, bc_ HB.out hw348_8⟩ (fun hHeld => ?_); refine with_tabW remontoirlaw18_stays.tab6 remontoirlaw18_stays.bits6 (fun HT_ HW_ => ?_)
          generalize wr.drew = w28 at HB HR327_3 HR327_6 HR328_3 HR328_6 HR329_3 HR329_6 HR335_3 HR335_6 HR342_3 HR342_6 HR348_3 HR348_6 hx327_0 hx327_1 hx327_2 hx327_3 hx327_4 hx327_5 hx327_6 hx327_7 hx327_8 hx328_0 hx328_1 hx328_2 hx328_3 hx328_4 hx328_5 hx328_6 hx328_7 hx328_8 hx329_0 hx329_1 hx329_2 hx329_3 hx329_4 hx329_5 hx329_6 hx329_7 hx329_8 hx335_0 hx335_1 hx335_2 hx335_3 hx335_4 hx335_5 hx335_6 hx335_7 hx335_8 hx342_0 hx342_1 hx342_2 hx342_3 hx342_4 hx342_5 hx342_6 hx342_7 hx342_8 hx348_0 hx348_1 hx348_2 hx348_3 hx348_4 hx348_5 hx348_6 hx348_7 hx348_8 hHeld ⊢
          refine pa_ 0 17 (bm 43 0x1) HT_ (h := ?_)
          refine pa_ 1 18 (bm 43 0x3) HT_ (h := ?_)
          refine pa_ 2 19 (bm 43 0x7) HT_ (h := ?_)
          refine pa_ 3 20 (bm 43 0xf) HT_ (h := ?_)
          refine pa_ 5 22 (bm 43 0x2f) HT_ (h := ?_)
          refine pa_ 6 23 (bm 43 0x6f) HT_ (h := ?_)
          refine pa_ 7 24 (bm 43 0xef) HT_ (h := ?_)
          refine pa_ 8 25 (bm 43 0x1ef) HT_ (h := ?_)
          refine take_ (i := 4) (N := some 21) (v := ?_) (a' := ?_) (bm 43 0x1ff) rfl rfl (take_ofW HT_.out HW_.out (by kernel_rfl)) (fun _ _ _ h => h) (Or.inl ⟨by rfl, ?_⟩) hHeld ?_ ?_
          rotate_left
          ·
           rintro w' ⟨s0, s1, s2, s3, s4, s5, s6, s7, s8, s9, s10, s11, s12, s13, s14, s15, s16, s17, s18, s19, s20, s21, s22, s23, s24, s25, s26, s27, s28, s29, s30, s31, s32, s33, s34, s35, s36, s37, s38, s39, s40, s41, s42, s43, s44, s45, s46, s47, s48, s49, s50, s51, s52, s53⟩
           go_simp
           with_reducible rfl
          rotate_left
          ·
           simp only [Act.put, sbA, sbB, sbC, i64_w, i32_w]
           rfl
          refine take_ (i := 9) (N := some 26) (v := ?_) (a' := ?_) (bm 43 0x3ff) rfl rfl (take_ofW HT_.out HW_.out (by kernel_rfl)) (fun _ _ _ h => h) (Or.inl ⟨by rfl, ?_⟩) hHeld ?_ ?_
          rotate_left
          ·
           rintro w' ⟨s0, s1, s2, s3, s4, s5, s6, s7, s8, s9, s10, s11, s12, s13, s14, s15, s16, s17, s18, s19, s20, s21, s22, s23, s24, s25, s26, s27, s28, s29, s30, s31, s32, s33, s34, s35, s36, s37, s38, s39, s40, s41, s42, s43, s44, s45, s46, s47, s48, s49, s50, s51, s52, s53⟩
           go_simp
           with_reducible rfl
          rotate_left
          ·
           simp only [Act.put, sbA, sbB, sbC, i64_w, i32_w]
           rfl
          refine pa_ 10 27 (bm 43 0x7ff) HT_ (h := ?_)
          refine pa_ 11 28 (bm 43 0xfff) HT_ (h := ?_)
          refine pa_ 12 29 (bm 43 0x1fff) HT_ (h := ?_)
          refine pa_ 13 30 (bm 43 0x3fff) HT_ (h := ?_)
          refine pa_ 14 31 (bm 43 0x7fff) HT_ (h := ?_)
          refine pa_ 15 32 (bm 43 0xffff) HT_ (h := ?_)
          refine pa_ 18 35 (bm 43 0x4ffff) HT_ (h := ?_)
          refine pa_ 19 36 (bm 43 0xcffff) HT_ (h := ?_)
          refine pa_ 20 37 (bm 43 0x1cffff) HT_ (h := ?_)
          refine pa_ 21 38 (bm 43 0x3cffff) HT_ (h := ?_)
          refine take_ (i := 16) (N := some 33) (v := ?_) (a' := ?_) (bm 43 0x3dffff) rfl rfl (take_ofW HT_.out HW_.out (by kernel_rfl)) (fun _ _ _ h => h) (Or.inl ⟨by rfl, ?_⟩) hHeld ?_ ?_
          rotate_left
          ·
           rintro w' ⟨s0, s1, s2, s3, s4, s5, s6, s7, s8, s9, s10, s11, s12, s13, s14, s15, s16, s17, s18, s19, s20, s21, s22, s23, s24, s25, s26, s27, s28, s29, s30, s31, s32, s33, s34, s35, s36, s37, s38, s39, s40, s41, s42, s43, s44, s45, s46, s47, s48, s49, s50, s51, s52, s53⟩
           go_simp
           with_reducible rfl
          rotate_left
          ·
           simp only [Act.put, sbA, sbB, sbC, i64_w, i32_w]
           rfl
          refine take_ (i := 22) (N := some 39) (v := ?_) (a' := ?_) (bm 43 0x7dffff) rfl rfl (take_ofW HT_.out HW_.out (by kernel_rfl)) (fun _ _ _ h => h) (Or.inl ⟨by rfl, ?_⟩) hHeld ?_ ?_
          rotate_left
          ·
           rintro w' ⟨s0, s1, s2, s3, s4, s5, s6, s7, s8, s9, s10, s11, s12, s13, s14, s15, s16, s17, s18, s19, s20, s21, s22, s23, s24, s25, s26, s27, s28, s29, s30, s31, s32, s33, s34, s35, s36, s37, s38, s39, s40, s41, s42, s43, s44, s45, s46, s47, s48, s49, s50, s51, s52, s53⟩
           go_simp
           with_reducible rfl
          rotate_left
          ·
           simp only [Act.put, sbA, sbB, sbC, i64_w, i32_w]
           rfl
          refine one_ (i := 17) (N := some 34) (bm 43 0x7fffff) rfl rfl (one_of HT_.out (by kernel_rfl)) (by decide) (fun K hK => ?_)
          refine goes_ Try.func15 (by kernel_rfl) rfl #[.agg #[.slice A327_3 ((rd_T76 l0 x5_1).f1.f0).length c327_3, .int .i64 ((rd_T76 l0 x5_1).f1.f1), .int .i64 ((rd_T76 l0 x5_1).f1.f2)]] (by rfl) rfl rfl (by (try simp only [List.map_toArray, List.map_cons, List.map_nil]); rfl) ?_
          with_reducible refine (remontoirlaw03_As.calls (fun k_ => k_ < w.heap.size) _ _ ((rd_T76 l0 x5_1).f1.f0) ((rd_T76 l0 x5_1).f1.f1) ((rd_T76 l0 x5_1).f1.f2) t330 t333 t334 _ ?side1 A9.out).mono ?_
          (case side1 => exact Kd.V_mk HC329_3.out (Kd.F_below (Kd.C_F (Kd.heap_int .i64) HR329_3.out) HB.out))
          rintro e w29 ⟨v331, rfl, ho0, hb⟩
          refine ⟨_, rfl, ?_⟩
          have n0_ := Aside0.mk (Kd.V_lower (Kd.V_mono (ok' := fun k_ => True) ho0 (fun k_ hk_ => trivial)) (below_size HB.out))
          have HO332 := n0_; clear n0_; replace HB := hb_ HB hb
          (try clear hb)
          (try clear hb2)
          (try clear hk)
          (try clear hi)
          (try clear ho0)
          refine hK.out _ _ ⟨bc_ HB.out hw327_0, bc_ HB.out hw327_1, bc_ HB.out hw327_2, bc_ HB.out hw327_3, bc_ HB.out hw327_4, bc_ HB.out hw327_5, bc_ HB.out hw327_6, bc_ HB.out hw327_7, bc_ HB.out hw327_8, bc_ HB.out hw328_0, bc_ HB.out hw328_1, bc_ HB.out hw328_2, bc_ HB.out hw328_3, bc_ HB.out hw328_4, bc_ HB.out hw328_5, bc_ HB.out hw328_6, bc_ HB.out hw328_7, bc_ HB.out hw328_8, bc_ HB.out hw329_0, bc_ HB.out hw329_1, bc_ HB.out hw329_2, bc_ HB.out hw329_3, bc_ HB.out hw329_4, bc_ HB.out hw329_5, bc_ HB.out hw329_6, bc_ HB.out hw329_7, bc_ HB.out hw329_8, bc_ HB.out hw335_0, bc_ HB.out hw335_1, bc_ HB.out hw335_2, bc_ HB.out hw335_3, bc_ HB.out hw335_4, bc_ HB.out hw335_5, bc_ HB.out hw335_6, bc_ HB.out hw335_7, bc_ HB.out hw335_8, bc_ HB.out hw342_0, bc_ HB.out hw342_1, bc_ HB.out hw342_2, bc_ HB.out hw342_3, bc_ HB.out hw342_4, bc_ HB.out hw342_5, bc_ HB.out hw342_6, bc_ HB.out hw342_7, bc_ HB.out hw342_8, bc_ HB.out hw348_0, bc_ HB.out hw348_1, bc_ HB.out hw348_2, bc_ HB.out hw348_3, bc_ HB.out hw348_4, bc_ HB.out hw348_5, bc_ HB.out hw348_6, bc_ HB.out hw348_7, bc_ HB.out hw348_8⟩ (fun hHeld => ?_)
          clear hK K
          refine nm_ 34 (h := ?_)
          refine one_ (i := 23) (N := some 40) (bm 43 0xffffff) rfl rfl (one_of HT_.out (by kernel_rfl)) (by decide) (fun K hK => ?_)
          refine goes_ Try.func15 (by kernel_rfl) rfl #[.agg #[.slice A328_3 ((rd_T76 l1 x5_1).f1.f0).length c328_3, .int .i64 ((rd_T76 l1 x5_1).f1.f1), .int .i64 ((rd_T76 l1 x5_1).f1.f2)]] (by rfl) rfl rfl (by (try simp only [List.map_toArray, List.map_cons, List.map_nil]); rfl) ?_
          with_reducible refine (remontoirlaw03_As.calls (fun k_ => k_ < w.heap.size) _ _ ((rd_T76 l1 x5_1).f1.f0) ((rd_T76 l1 x5_1).f1.f1) ((rd_T76 l1 x5_1).f1.f2) t336 t339 t340 _ ?side1 A10.out).mono ?_
          (case side1 => exact Kd.V_mk HC335_3.out (Kd.F_below (Kd.C_F (Kd.heap_int .i64) HR335_3.out) HB.out))
          rintro e w30 ⟨v337, rfl, ho0, hb⟩
          refine ⟨_, rfl, ?_⟩
          have n1_ := Aside0.mk (Kd.V_lower (Kd.V_mono (ok' := fun k_ => True) ho0 (fun k_ hk_ => trivial)) (below_size HB.out))
          have HO338 := n1_; clear n1_; replace HO332 := vb_ HO332 hb; replace HB := hb_ HB hb
          (try clear hb)
          (try clear hb2)
          (try clear hk)
          (try clear hi)
          (try clear ho0)
          obtain ⟨Ao31, co31, eo31⟩ := Kd.V_slice HO332.out
          ((subst eo31))
          obtain ⟨Ao32, co32, eo32⟩ := Kd.V_slice HO338.out
          ((subst eo32))
          refine hK.out _ _ ⟨bc_ HB.out hw327_0, bc_ HB.out hw327_1, bc_ HB.out hw327_2, bc_ HB.out hw327_3, bc_ HB.out hw327_4, bc_ HB.out hw327_5, bc_ HB.out hw327_6, bc_ HB.out hw327_7, bc_ HB.out hw327_8, bc_ HB.out hw328_0, bc_ HB.out hw328_1, bc_ HB.out hw328_2, bc_ HB.out hw328_3, bc_ HB.out hw328_4, bc_ HB.out hw328_5, bc_ HB.out hw328_6, bc_ HB.out hw328_7, bc_ HB.out hw328_8, bc_ HB.out hw329_0, bc_ HB.out hw329_1, bc_ HB.out hw329_2, bc_ HB.out hw329_3, bc_ HB.out hw329_4, bc_ HB.out hw329_5, bc_ HB.out hw329_6, bc_ HB.out hw329_7, bc_ HB.out hw329_8, bc_ HB.out hw335_0, bc_ HB.out hw335_1, bc_ HB.out hw335_2, bc_ HB.out hw335_3, bc_ HB.out hw335_4, bc_ HB.out hw335_5, bc_ HB.out hw335_6, bc_ HB.out hw335_7, bc_ HB.out hw335_8, bc_ HB.out hw342_0, bc_ HB.out hw342_1, bc_ HB.out hw342_2, bc_ HB.out hw342_3, bc_ HB.out hw342_4, bc_ HB.out hw342_5, bc_ HB.out hw342_6, bc_ HB.out hw342_7, bc_ HB.out hw342_8, bc_ HB.out hw348_0, bc_ HB.out hw348_1, bc_ HB.out hw348_2, bc_ HB.out hw348_3, bc_ HB.out hw348_4, bc_ HB.out hw348_5, bc_ HB.out hw348_6, bc_ HB.out hw348_7, bc_ HB.out hw348_8⟩ (fun hHeld => ?_)
          clear hK K
          refine nm_ 40 (h := ?_)
          refine one_ (i := 24) (N := some 41) (bm 43 0x1ffffff) rfl rfl (one_of HT_.out (by kernel_rfl)) (by decide) (fun K hK => ?_)
          refine goes_ Try.func20 (by kernel_rfl) rfl #[.agg #[.slice Ao31 t330.length co31, .int .i64 t333, .int .i64 t334], .agg #[.slice Ao32 t336.length co32, .int .i64 t339, .int .i64 t340]] (by rfl) rfl rfl (by (try simp only [List.map_toArray, List.map_cons, List.map_nil]); rfl) ?_
          with_reducible refine (remontoirref03_Same.calls k1 _ _ t330 t333 t334 _ _ t336 t339 t340 true _ ?side1 ?side2 ?side3 ?side4 A11.out).mono ?_
          (case side1 => repeat ((exact (Kd.V_reads' HO332.out).2.2)))
          (case side2 => exact (Kd.V_reads' HO332.out).2.1)
          (case side3 => repeat ((exact (Kd.V_reads' HO338.out).2.2)))
          (case side4 => exact (Kd.V_reads' HO338.out).2.1)
          rintro e w33 ⟨rfl, hb⟩
          refine ⟨_, rfl, ?_⟩
          replace HO332 := vb_ HO332 hb; replace HO338 := vb_ HO338 hb; replace HB := hb_ HB hb
          (try clear hb)
          (try clear hb2)
          (try clear hk)
          (try clear hi)
          refine hK.out _ _ ⟨bc_ HB.out hw327_0, bc_ HB.out hw327_1, bc_ HB.out hw327_2, bc_ HB.out hw327_3, bc_ HB.out hw327_4, bc_ HB.out hw327_5, bc_ HB.out hw327_6, bc_ HB.out hw327_7, bc_ HB.out hw327_8, bc_ HB.out hw328_0, bc_ HB.out hw328_1, bc_ HB.out hw328_2, bc_ HB.out hw328_3, bc_ HB.out hw328_4, bc_ HB.out hw328_5, bc_ HB.out hw328_6, bc_ HB.out hw328_7, bc_ HB.out hw328_8, bc_ HB.out hw329_0, bc_ HB.out hw329_1, bc_ HB.out hw329_2, bc_ HB.out hw329_3, bc_ HB.out hw329_4, bc_ HB.out hw329_5, bc_ HB.out hw329_6, bc_ HB.out hw329_7, bc_ HB.out hw329_8, bc_ HB.out hw335_0, bc_ HB.out hw335_1, bc_ HB.out hw335_2, bc_ HB.out hw335_3, bc_ HB.out hw335_4, bc_ HB.out hw335_5, bc_ HB.out hw335_6, bc_ HB.out hw335_7, bc_ HB.out hw335_8, bc_ HB.out hw342_0, bc_ HB.out hw342_1, bc_ HB.out hw342_2, bc_ HB.out hw342_3, bc_ HB.out hw342_4, bc_ HB.out hw342_5, bc_ HB.out hw342_6, bc_ HB.out hw342_7, bc_ HB.out hw342_8, bc_ HB.out hw348_0, bc_ HB.out hw348_1, bc_ HB.out hw348_2, bc_ HB.out hw348_3, bc_ HB.out hw348_4, bc_ HB.out hw348_5, bc_ HB.out hw348_6, bc_ HB.out hw348_7, bc_ HB.out hw348_8⟩ (fun hHeld => ?_)
          clear hK K
          refine nm_ 41 (h := ?_)
          refine pa_ 25 42 (bm 43 0x3ffffff) HT_ (h := ?_)
          refine pa_ 26 43 (bm 43 0x7ffffff) HT_ (h := ?_)
          refine pa_ 27 44 (bm 43 0xfffffff) HT_ (h := ?_)
          refine pa_ 28 45 (bm 43 0x1fffffff) HT_ (h := ?_)
          refine pa_ 29 46 (bm 43 0x3fffffff) HT_ (h := ?_)
          refine pa_ 30 47 (bm 43 0x7fffffff) HT_ (h := ?_)
          refine pa_ 31 48 (bm 43 0xffffffff) HT_ (h := ?_)
          refine pa_ 34 51 (bm 43 0x4ffffffff) HT_ (h := ?_)
          refine pa_ 35 52 (bm 43 0xcffffffff) HT_ (h := ?_)
          refine pa_ 36 53 (bm 43 0x1cffffffff) HT_ (h := ?_)
          refine pa_ 37 54 (bm 43 0x3cffffffff) HT_ (h := ?_)
          refine take_ (i := 32) (N := some 49) (v := ?_) (a' := ?_) (bm 43 0x3dffffffff) rfl rfl (take_ofW HT_.out HW_.out (by kernel_rfl)) (fun _ _ _ h => h) (Or.inl ⟨by rfl, ?_⟩) hHeld ?_ ?_
          rotate_left
          ·
           rintro w' ⟨s0, s1, s2, s3, s4, s5, s6, s7, s8, s9, s10, s11, s12, s13, s14, s15, s16, s17, s18, s19, s20, s21, s22, s23, s24, s25, s26, s27, s28, s29, s30, s31, s32, s33, s34, s35, s36, s37, s38, s39, s40, s41, s42, s43, s44, s45, s46, s47, s48, s49, s50, s51, s52, s53⟩
           go_simp
           with_reducible rfl
          rotate_left
          ·
           simp only [Act.put, sbA, sbB, sbC, i64_w, i32_w]
           rfl
          refine take_ (i := 38) (N := some 55) (v := ?_) (a' := ?_) (bm 43 0x7dffffffff) rfl rfl (take_ofW HT_.out HW_.out (by kernel_rfl)) (fun _ _ _ h => h) (Or.inl ⟨by rfl, ?_⟩) hHeld ?_ ?_
          rotate_left
          ·
           rintro w' ⟨s0, s1, s2, s3, s4, s5, s6, s7, s8, s9, s10, s11, s12, s13, s14, s15, s16, s17, s18, s19, s20, s21, s22, s23, s24, s25, s26, s27, s28, s29, s30, s31, s32, s33, s34, s35, s36, s37, s38, s39, s40, s41, s42, s43, s44, s45, s46, s47, s48, s49, s50, s51, s52, s53⟩
           go_simp
           with_reducible rfl
          rotate_left
          ·
           simp only [Act.put, sbA, sbB, sbC, i64_w, i32_w]
           rfl
          refine one_ (i := 33) (N := some 50) (bm 43 0x7fffffffff) rfl rfl (one_of HT_.out (by kernel_rfl)) (by decide) (fun K hK => ?_)
          refine goes_ Try.func15 (by kernel_rfl) rfl #[.agg #[.slice A327_6 ((rd_T76 l0 x5_1).f2.f0).length c327_6, .int .i64 ((rd_T76 l0 x5_1).f2.f1), .int .i64 ((rd_T76 l0 x5_1).f2.f2)]] (by rfl) rfl rfl (by (try simp only [List.map_toArray, List.map_cons, List.map_nil]); rfl) ?_
          with_reducible refine (remontoirlaw03_As.calls (fun k_ => k_ < w.heap.size) _ _ ((rd_T76 l0 x5_1).f2.f0) ((rd_T76 l0 x5_1).f2.f1) ((rd_T76 l0 x5_1).f2.f2) t343 t346 t347 _ ?side1 A13.out).mono ?_
          (case side1 => exact Kd.V_mk HC342_6.out (Kd.F_below (Kd.C_F (Kd.heap_int .i64) HR342_6.out) HB.out))
          rintro e w34 ⟨v344, rfl, ho0, hb⟩
          refine ⟨_, rfl, ?_⟩
          have n2_ := Aside0.mk (Kd.V_lower (Kd.V_mono (ok' := fun k_ => True) ho0 (fun k_ hk_ => trivial)) (below_size HB.out))
          have HO345 := n2_; clear n2_; replace HO332 := vb_ HO332 hb; replace HO338 := vb_ HO338 hb; replace HB := hb_ HB hb
          (try clear hb)
          (try clear hb2)
          (try clear hk)
          (try clear hi)
          (try clear ho0)
          refine hK.out _ _ ⟨bc_ HB.out hw327_0, bc_ HB.out hw327_1, bc_ HB.out hw327_2, bc_ HB.out hw327_3, bc_ HB.out hw327_4, bc_ HB.out hw327_5, bc_ HB.out hw327_6, bc_ HB.out hw327_7, bc_ HB.out hw327_8, bc_ HB.out hw328_0, bc_ HB.out hw328_1, bc_ HB.out hw328_2, bc_ HB.out hw328_3, bc_ HB.out hw328_4, bc_ HB.out hw328_5, bc_ HB.out hw328_6, bc_ HB.out hw328_7, bc_ HB.out hw328_8, bc_ HB.out hw329_0, bc_ HB.out hw329_1, bc_ HB.out hw329_2, bc_ HB.out hw329_3, bc_ HB.out hw329_4, bc_ HB.out hw329_5, bc_ HB.out hw329_6, bc_ HB.out hw329_7, bc_ HB.out hw329_8, bc_ HB.out hw335_0, bc_ HB.out hw335_1, bc_ HB.out hw335_2, bc_ HB.out hw335_3, bc_ HB.out hw335_4, bc_ HB.out hw335_5, bc_ HB.out hw335_6, bc_ HB.out hw335_7, bc_ HB.out hw335_8, bc_ HB.out hw342_0, bc_ HB.out hw342_1, bc_ HB.out hw342_2, bc_ HB.out hw342_3, bc_ HB.out hw342_4, bc_ HB.out hw342_5, bc_ HB.out hw342_6, bc_ HB.out hw342_7, bc_ HB.out hw342_8, bc_ HB.out hw348_0, bc_ HB.out hw348_1, bc_ HB.out hw348_2, bc_ HB.out hw348_3, bc_ HB.out hw348_4, bc_ HB.out hw348_5, bc_ HB.out hw348_6, bc_ HB.out hw348_7, bc_ HB.out hw348_8⟩ (fun hHeld => ?_)
          clear hK K
          refine nm_ 50 (h := ?_)
          refine one_ (i := 39) (N := some 56) (bm 43 0xffffffffff) rfl rfl (one_of HT_.out (by kernel_rfl)) (by decide) (fun K hK => ?_)
          refine goes_ Try.func15 (by kernel_rfl) rfl #[.agg #[.slice A328_6 ((rd_T76 l1 x5_1).f2.f0).length c328_6, .int .i64 ((rd_T76 l1 x5_1).f2.f1), .int .i64 ((rd_T76 l1 x5_1).f2.f2)]] (by rfl) rfl rfl (by (try simp only [List.map_toArray, List.map_cons, List.map_nil]); rfl) ?_
          with_reducible refine (remontoirlaw03_As.calls (fun k_ => k_ < w.heap.size) _ _ ((rd_T76 l1 x5_1).f2.f0) ((rd_T76 l1 x5_1).f2.f1) ((rd_T76 l1 x5_1).f2.f2) t349 t352 t353 _ ?side1 A14.out).mono ?_
          (case side1 => exact Kd.V_mk HC348_6.out (Kd.F_below (Kd.C_F (Kd.heap_int .i64) HR348_6.out) HB.out))
          rintro e w35 ⟨v350, rfl, ho0, hb⟩
          refine ⟨_, rfl, ?_⟩
          have n3_ := Aside0.mk (Kd.V_lower (Kd.V_mono (ok' := fun k_ => True) ho0 (fun k_ hk_ => trivial)) (below_size HB.out))
          have HO351 := n3_; clear n3_; replace HO332 := vb_ HO332 hb; replace HO338 := vb_ HO338 hb; replace HO345 := vb_ HO345 hb; replace HB := hb_ HB hb
          (try clear hb)
          (try clear hb2)
          (try clear hk)
          (try clear hi)
          (try clear ho0)
          obtain ⟨Ao36, co36, eo36⟩ := Kd.V_slice HO345.out
          ((subst eo36))
          obtain ⟨Ao37, co37, eo37⟩ := Kd.V_slice HO351.out
          ((subst eo37))
          refine hK.out _ _ ⟨bc_ HB.out hw327_0, bc_ HB.out hw327_1, bc_ HB.out hw327_2, bc_ HB.out hw327_3, bc_ HB.out hw327_4, bc_ HB.out hw327_5, bc_ HB.out hw327_6, bc_ HB.out hw327_7, bc_ HB.out hw327_8, bc_ HB.out hw328_0, bc_ HB.out hw328_1, bc_ HB.out hw328_2, bc_ HB.out hw328_3, bc_ HB.out hw328_4, bc_ HB.out hw328_5, bc_ HB.out hw328_6, bc_ HB.out hw328_7, bc_ HB.out hw328_8, bc_ HB.out hw329_0, bc_ HB.out hw329_1, bc_ HB.out hw329_2, bc_ HB.out hw329_3, bc_ HB.out hw329_4, bc_ HB.out hw329_5, bc_ HB.out hw329_6, bc_ HB.out hw329_7, bc_ HB.out hw329_8, bc_ HB.out hw335_0, bc_ HB.out hw335_1, bc_ HB.out hw335_2, bc_ HB.out hw335_3, bc_ HB.out hw335_4, bc_ HB.out hw335_5, bc_ HB.out hw335_6, bc_ HB.out hw335_7, bc_ HB.out hw335_8, bc_ HB.out hw342_0, bc_ HB.out hw342_1, bc_ HB.out hw342_2, bc_ HB.out hw342_3, bc_ HB.out hw342_4, bc_ HB.out hw342_5, bc_ HB.out hw342_6, bc_ HB.out hw342_7, bc_ HB.out hw342_8, bc_ HB.out hw348_0, bc_ HB.out hw348_1, bc_ HB.out hw348_2, bc_ HB.out hw348_3, bc_ HB.out hw348_4, bc_ HB.out hw348_5, bc_ HB.out hw348_6, bc_ HB.out hw348_7, bc_ HB.out hw348_8⟩ (fun hHeld => ?_)
          clear hK K
          refine nm_ 56 (h := ?_)
          refine one_ (i := 40) (N := some 57) (bm 43 0x1ffffffffff) rfl rfl (one_of HT_.out (by kernel_rfl)) (by decide) (fun K hK => ?_)
          refine goes_ Try.func20 (by kernel_rfl) rfl #[.agg #[.slice Ao36 t343.length co36, .int .i64 t346, .int .i64 t347], .agg #[.slice Ao37 t349.length co37, .int .i64 t352, .int .i64 t353]] (by rfl) rfl rfl (by (try simp only [List.map_toArray, List.map_cons, List.map_nil]); rfl) ?_
          with_reducible refine (remontoirref03_Same.calls k1 _ _ t343 t346 t347 _ _ t349 t352 t353 false _ ?side1 ?side2 ?side3 ?side4 A15.out).mono ?_
          (case side1 => repeat ((exact (Kd.V_reads' HO345.out).2.2)))
          (case side2 => exact (Kd.V_reads' HO345.out).2.1)
          (case side3 => repeat ((exact (Kd.V_reads' HO351.out).2.2)))
          (case side4 => exact (Kd.V_reads' HO351.out).2.1)
          rintro e w38 ⟨rfl, hb⟩
          refine ⟨_, rfl, ?_⟩
          replace HO332 := vb_ HO332 hb; replace HO338 := vb_ HO338 hb; replace HO345 := vb_ HO345 hb; replace HO351 := vb_ HO351 hb; replace HB := hb_ HB hb
          (try clear hb)
          (try clear hb2)
          (try clear hk)
          (try clear hi)
          refine hK.out _ _ ⟨bc_ HB.out hw327_0, bc_ HB.out hw327_1, bc_ HB.out hw327_2, bc_ HB.out hw327_3, bc_ HB.out hw327_4, bc_ HB.out hw327_5, bc_ HB.out hw327_6, bc_ HB.out hw327_7, bc_ HB.out hw327_8, bc_ HB.out hw328_0, bc_ HB.out hw328_1, bc_ HB.out hw328_2, bc_ HB.out hw328_3, bc_ HB.out hw328_4, bc_ HB.out hw328_5, bc_ HB.out hw328_6, bc_ HB.out hw328_7, bc_ HB.out hw328_8, bc_ HB.out hw329_0, bc_ HB.out hw329_1, bc_ HB.out hw329_2, bc_ HB.out hw329_3, bc_ HB.out hw329_4, bc_ HB.out hw329_5, bc_ HB.out hw329_6, bc_ HB.out hw329_7, bc_ HB.out hw329_8, bc_ HB.out hw335_0, bc_ HB.out hw335_1, bc_ HB.out hw335_2, bc_ HB.out hw335_3, bc_ HB.out hw335_4, bc_ HB.out hw335_5, bc_ HB.out hw335_6, bc_ HB.out hw335_7, bc_ HB.out hw335_8, bc_ HB.out hw342_0, bc_ HB.out hw342_1, bc_ HB.out hw342_2, bc_ HB.out hw342_3, bc_ HB.out hw342_4, bc_ HB.out hw342_5, bc_ HB.out hw342_6, bc_ HB.out hw342_7, bc_ HB.out hw342_8, bc_ HB.out hw348_0, bc_ HB.out hw348_1, bc_ HB.out hw348_2, bc_ HB.out hw348_3, bc_ HB.out hw348_4, bc_ HB.out hw348_5, bc_ HB.out hw348_6, bc_ HB.out hw348_7, bc_ HB.out hw348_8⟩ (fun hHeld => ?_)
          clear hK K
          refine nm_ 57 (h := ?_)
          refine pa_ 41 58 (bm 43 0x3ffffffffff) HT_ (h := ?_)
          refine pa_ 42 59 (bm 43 0x7ffffffffff) HT_ (h := ?_)
          refine done_ (done_of HT_.out (by kernel_rfl)) ?_
          try go_wp2
          go_ret
          exact ⟨by rfl, by repeat ((with_reducible (exact HB.out)))⟩
        ·
         replace c12 := Bool.eq_false_iff.mpr c12
         subst c12
         have H1 : (some false) = some r := by rw [if_neg (show ¬ (false = true) by decide)] at H; exact H
         clear H
         have H := H1
         clear H1
         obtain rfl := Option.some.inj H
         try go_wp2
         have n0_ := Aside0.mk (below_drew1 HB.out)
         clear HB; have HB := n0_; clear n0_
         have p327 : 0 ≤ (x5_1 : Int) := of_decide_eq_true (by (with_reducible assumption))
         have q327 : x5_1 < (l0.length : Int) := of_decide_eq_true (by (with_reducible assumption))
         obtain ⟨ad327, A327_3, c327_3, A327_6, c327_6, e327, hx327_0, hx327_1, hx327_2, hx327_3, hx327_4, hx327_5, hx327_6, hx327_7, hx327_8, hl327_3, hi327_3, hl327_6, hi327_6⟩ := at_T76 HR0.out x5_1 p327 q327
         have hw327_8 := hx327_8
         have hw327_7 := hx327_7
         have hw327_6 := hx327_6
         have hw327_5 := hx327_5
         have hw327_4 := hx327_4
         have hw327_3 := hx327_3
         have hw327_2 := hx327_2
         have hw327_1 := hx327_1
         have hw327_0 := hx327_0
         cases e327
         replace hx327_0 := bc_ HB.out hx327_0
         replace hx327_1 := bc_ HB.out hx327_1
         replace hx327_2 := bc_ HB.out hx327_2
         replace hx327_3 := bc_ HB.out hx327_3
         replace hx327_4 := bc_ HB.out hx327_4
         replace hx327_5 := bc_ HB.out hx327_5
         replace hx327_6 := bc_ HB.out hx327_6
         replace hx327_7 := bc_ HB.out hx327_7
         replace hx327_8 := bc_ HB.out hx327_8
         have HR327_3 := Aside0.mk hi327_3
         have HC327_3 := Aside0.mk hl327_3
         clear hi327_3 hl327_3
         have HR327_6 := Aside0.mk hi327_6
         have HC327_6 := Aside0.mk hl327_6
         clear hi327_6 hl327_6
         replace p327 := eq_true p327
         replace q327 := eq_true q327
         have p328 : 0 ≤ (x5_1 : Int) := of_decide_eq_true (by (with_reducible assumption))
         have q328 : x5_1 < (l1.length : Int) := of_decide_eq_true (by (with_reducible assumption))
         obtain ⟨ad328, A328_3, c328_3, A328_6, c328_6, e328, hx328_0, hx328_1, hx328_2, hx328_3, hx328_4, hx328_5, hx328_6, hx328_7, hx328_8, hl328_3, hi328_3, hl328_6, hi328_6⟩ := at_T76 HR1.out x5_1 p328 q328
         have hw328_8 := hx328_8
         have hw328_7 := hx328_7
         have hw328_6 := hx328_6
         have hw328_5 := hx328_5
         have hw328_4 := hx328_4
         have hw328_3 := hx328_3
         have hw328_2 := hx328_2
         have hw328_1 := hx328_1
         have hw328_0 := hx328_0
         cases e328
         replace hx328_0 := bc_ HB.out hx328_0
         replace hx328_1 := bc_ HB.out hx328_1
         replace hx328_2 := bc_ HB.out hx328_2
         replace hx328_3 := bc_ HB.out hx328_3
         replace hx328_4 := bc_ HB.out hx328_4
         replace hx328_5 := bc_ HB.out hx328_5
         replace hx328_6 := bc_ HB.out hx328_6
         replace hx328_7 := bc_ HB.out hx328_7
         replace hx328_8 := bc_ HB.out hx328_8
         have HR328_3 := Aside0.mk hi328_3
         have HC328_3 := Aside0.mk hl328_3
         clear hi328_3 hl328_3
         have HR328_6 := Aside0.mk hi328_6
         have HC328_6 := Aside0.mk hl328_6
         clear hi328_6 hl328_6
         replace p328 := eq_true p328
         replace q328 := eq_true q328
         have p329 : 0 ≤ (x5_1 : Int) := of_decide_eq_true (by (with_reducible assumption))
         have q329 : x5_1 < (l0.length : Int) := of_decide_eq_true (by (with_reducible assumption))
         obtain ⟨ad329, A329_3, c329_3, A329_6, c329_6, e329, hx329_0, hx329_1, hx329_2, hx329_3, hx329_4, hx329_5, hx329_6, hx329_7, hx329_8, hl329_3, hi329_3, hl329_6, hi329_6⟩ := at_T76 HR0.out x5_1 p329 q329
         have hw329_8 := hx329_8
         have hw329_7 := hx329_7
         have hw329_6 := hx329_6
         have hw329_5 := hx329_5
         have hw329_4 := hx329_4
         have hw329_3 := hx329_3
         have hw329_2 := hx329_2
         have hw329_1 := hx329_1
         have hw329_0 := hx329_0
         obtain rfl : ad327 = ad329 := (by injection e329)
         replace hx329_0 := bc_ HB.out hx329_0
         replace hx329_1 := bc_ HB.out hx329_1
         replace hx329_2 := bc_ HB.out hx329_2
         replace hx329_3 := bc_ HB.out hx329_3
         replace hx329_4 := bc_ HB.out hx329_4
         replace hx329_5 := bc_ HB.out hx329_5
         replace hx329_6 := bc_ HB.out hx329_6
         replace hx329_7 := bc_ HB.out hx329_7
         replace hx329_8 := bc_ HB.out hx329_8
         have HR329_3 := Aside0.mk hi329_3
         have HC329_3 := Aside0.mk hl329_3
         clear hi329_3 hl329_3
         have HR329_6 := Aside0.mk hi329_6
         have HC329_6 := Aside0.mk hl329_6
         clear hi329_6 hl329_6
         replace p329 := eq_true p329
         replace q329 := eq_true q329
         have ea_ := Option.some.inj (hx327_3.symm.trans hx329_3)
         injection ea_ with ea_ en_ ec_
         subst ea_
         subst ec_
         clear en_
         have ea_ := Option.some.inj (hx327_6.symm.trans hx329_6)
         injection ea_ with ea_ en_ ec_
         subst ea_
         subst ec_
         clear en_
         have p335 : 0 ≤ (x5_1 : Int) := of_decide_eq_true (by (with_reducible assumption))
         have q335 : x5_1 < (l1.length : Int) := of_decide_eq_true (by (with_reducible assumption))
         obtain ⟨ad335, A335_3, c335_3, A335_6, c335_6, e335, hx335_0, hx335_1, hx335_2, hx335_3, hx335_4, hx335_5, hx335_6, hx335_7, hx335_8, hl335_3, hi335_3, hl335_6, hi335_6⟩ := at_T76 HR1.out x5_1 p335 q335
         have hw335_8 := hx335_8
         have hw335_7 := hx335_7
         have hw335_6 := hx335_6
         have hw335_5 := hx335_5
         have hw335_4 := hx335_4
         have hw335_3 := hx335_3
         have hw335_2 := hx335_2
         have hw335_1 := hx335_1
         have hw335_0 := hx335_0
         obtain rfl : ad328 = ad335 := (by injection e335)
         replace hx335_0 := bc_ HB.out hx335_0
         replace hx335_1 := bc_ HB.out hx335_1
         replace hx335_2 := bc_ HB.out hx335_2
         replace hx335_3 := bc_ HB.out hx335_3
         replace hx335_4 := bc_ HB.out hx335_4
         replace hx335_5 := bc_ HB.out hx335_5
         replace hx335_6 := bc_ HB.out hx335_6
         replace hx335_7 := bc_ HB.out hx335_7
         replace hx335_8 := bc_ HB.out hx335_8
         have HR335_3 := Aside0.mk hi335_3
         have HC335_3 := Aside0.mk hl335_3
         clear hi335_3 hl335_3
         have HR335_6 := Aside0.mk hi335_6
         have HC335_6 := Aside0.mk hl335_6
         clear hi335_6 hl335_6
         replace p335 := eq_true p335
         replace q335 := eq_true q335
         have ea_ := Option.some.inj (hx328_3.symm.trans hx335_3)
         injection ea_ with ea_ en_ ec_
         subst ea_
         subst ec_
         clear en_
         have ea_ := Option.some.inj (hx328_6.symm.trans hx335_6)
         injection ea_ with ea_ en_ ec_
         subst ea_
         subst ec_
         clear en_
         refine start_ (n := 43) (S := fun w' => hc9_ w' (ad327.add ((x5_1).toNat * 9)) (.int .i64 ((rd_T76 l0 x5_1).f0.f0)) (.int .i64 ((rd_T76 l0 x5_1).f0.f1)) (.int .i64 ((rd_T76 l0 x5_1).f0.f2)) (.slice A327_3 ((rd_T76 l0 x5_1).f1.f0).length c327_3) (.int .i64 ((rd_T76 l0 x5_1).f1.f1)) (.int .i64 ((rd_T76 l0 x5_1).f1.f2)) (.slice A327_6 ((rd_T76 l0 x5_1).f2.f0).length c327_6) (.int .i64 ((rd_T76 l0 x5_1).f2.f1)) (.int .i64 ((rd_T76 l0 x5_1).f2.f2)) (hc9_ w' (ad328.add ((x5_1).toNat * 9)) (.int .i64 ((rd_T76 l1 x5_1).f0.f0)) (.int .i64 ((rd_T76 l1 x5_1).f0.f1)) (.int .i64 ((rd_T76 l1 x5_1).f0.f2)) (.slice A328_3 ((rd_T76 l1 x5_1).f1.f0).length c328_3) (.int .i64 ((rd_T76 l1 x5_1).f1.f1)) (.int .i64 ((rd_T76 l1 x5_1).f1.f2)) (.slice A328_6 ((rd_T76 l1 x5_1).f2.f0).length c328_6) (.int .i64 ((rd_T76 l1 x5_1).f2.f1)) (.int .i64 ((rd_T76 l1 x5_1).f2.f2)) (hc9_ w' (ad327.add ((x5_1).toNat * 9)) (.int .i64 ((rd_T76 l0 x5_1).f0.f0)) (.int .i64 ((rd_T76 l0 x5_1).f0.f1)) (.int .i64 ((rd_T76 l0 x5_1).f0.f2)) (.slice A327_3 ((rd_T76 l0 x5_1).f1.f0).length c327_3) (.int .i64 ((rd_T76 l0 x5_1).f1.f1)) (.int .i64 ((rd_T76 l0 x5_1).f1.f2)) (.slice A327_6 ((rd_T76 l0 x5_1).f2.f0).length c327_6) (.int .i64 ((rd_T76 l0 x5_1).f2.f1)) (.int .i64 ((rd_T76 l0 x5_1).f2.f2)) (he9_ w' (ad328.add ((x5_1).toNat * 9)) (.int .i64 ((rd_T76 l1 x5_1).f0.f0)) (.int .i64 ((rd_T76 l1 x5_1).f0.f1)) (.int .i64 ((rd_T76 l1 x5_1).f0.f2)) (.slice A328_3 ((rd_T76 l1 x5_1).f1.f0).length c328_3) (.int .i64 ((rd_T76 l1 x5_1).f1.f1)) (.int .i64 ((rd_T76 l1 x5_1).f1.f2)) (.slice A328_6 ((rd_T76 l1 x5_1).f2.f0).length c328_6) (.int .i64 ((rd_T76 l1 x5_1).f2.f1)) (.int .i64 ((rd_T76 l1 x5_1).f2.f2)))))) (ds := []) #[false, false, false, false, false, false, false, false, false, false, false, false, false, false, false, false, false, false, false, false, false, false, false, false, false, false, false, false, false, false, false, false, false, false, false, false, false, false, false, false, false, false, false] (by kernel_rfl) rfl rfl ⟨bc_ HB.out hw327_0, bc_ HB.out hw327_1, bc_ HB.out hw327_2, bc_ HB.out hw327_3, bc_ HB.out hw327_4, bc_ HB.out hw327_5, bc_ HB.out hw327_6, bc_ HB.out hw327_7, bc_ HB.out hw327_8, bc_ HB.out hw328_0, bc_ HB.out hw328_1, bc_ HB.out hw328_2, bc_ HB.out hw328_3, bc_ HB.out hw328_4, bc_ HB.out hw328_5, bc_ HB.out hw328_6, bc_ HB.out hw328_7, bc_ HB.out hw328_8, bc_ HB.out hw329_0, bc_ HB.out hw329_1, bc_ HB.out hw329_2, bc_ HB.out hw329_3, bc_ HB.out hw329_4, bc_ HB.out hw329_5, bc_ HB.out hw329_6, bc_ HB.out hw329_7, bc_ HB.out hw329_8, bc_ HB.out hw335_0, bc_ HB.out hw335_1, bc_ HB.out hw335_2, bc_ HB.out hw335_3, bc_ HB.out hw335_4, bc_ HB.out hw335_5, bc_ HB.out hw335_6, bc_ HB.out hw335_7, bc_ HB.out hw335_8⟩ (fun hHeld => ?_); refine with_tabW remontoirlaw18_stays.tab6 remontoirlaw18_stays.bits6 (fun HT_ HW_ => ?_)
         generalize wr.drew = w39 at HB HR327_3 HR327_6 HR328_3 HR328_6 HR329_3 HR329_6 HR335_3 HR335_6 hx327_0 hx327_1 hx327_2 hx327_3 hx327_4 hx327_5 hx327_6 hx327_7 hx327_8 hx328_0 hx328_1 hx328_2 hx328_3 hx328_4 hx328_5 hx328_6 hx328_7 hx328_8 hx329_0 hx329_1 hx329_2 hx329_3 hx329_4 hx329_5 hx329_6 hx329_7 hx329_8 hx335_0 hx335_1 hx335_2 hx335_3 hx335_4 hx335_5 hx335_6 hx335_7 hx335_8 hHeld ⊢
         refine pa_ 0 17 (bm 43 0x1) HT_ (h := ?_)
         refine pa_ 1 18 (bm 43 0x3) HT_ (h := ?_)
         refine pa_ 2 19 (bm 43 0x7) HT_ (h := ?_)
         refine pa_ 3 20 (bm 43 0xf) HT_ (h := ?_)
         refine pa_ 5 22 (bm 43 0x2f) HT_ (h := ?_)
         refine pa_ 6 23 (bm 43 0x6f) HT_ (h := ?_)
         refine pa_ 7 24 (bm 43 0xef) HT_ (h := ?_)
         refine pa_ 8 25 (bm 43 0x1ef) HT_ (h := ?_)
         refine take_ (i := 4) (N := some 21) (v := ?_) (a' := ?_) (bm 43 0x1ff) rfl rfl (take_ofW HT_.out HW_.out (by kernel_rfl)) (fun _ _ _ h => h) (Or.inl ⟨by rfl, ?_⟩) hHeld ?_ ?_
         rotate_left
         ·
          rintro w' ⟨s0, s1, s2, s3, s4, s5, s6, s7, s8, s9, s10, s11, s12, s13, s14, s15, s16, s17, s18, s19, s20, s21, s22, s23, s24, s25, s26, s27, s28, s29, s30, s31, s32, s33, s34, s35⟩
          go_simp
          with_reducible rfl
         rotate_left
         ·
          simp only [Act.put, sbA, sbB, sbC, i64_w, i32_w]
          rfl
         refine take_ (i := 9) (N := some 26) (v := ?_) (a' := ?_) (bm 43 0x3ff) rfl rfl (take_ofW HT_.out HW_.out (by kernel_rfl)) (fun _ _ _ h => h) (Or.inl ⟨by rfl, ?_⟩) hHeld ?_ ?_
         rotate_left
         ·
          rintro w' ⟨s0, s1, s2, s3, s4, s5, s6, s7, s8, s9, s10, s11, s12, s13, s14, s15, s16, s17, s18, s19, s20, s21, s22, s23, s24, s25, s26, s27, s28, s29, s30, s31, s32, s33, s34, s35⟩
          go_simp
          with_reducible rfl
         rotate_left
         ·
          simp only [Act.put, sbA, sbB, sbC, i64_w, i32_w]
          rfl
         refine pa_ 10 27 (bm 43 0x7ff) HT_ (h := ?_)
         refine pa_ 11 28 (bm 43 0xfff) HT_ (h := ?_)
         refine pa_ 12 29 (bm 43 0x1fff) HT_ (h := ?_)
         refine pa_ 13 30 (bm 43 0x3fff) HT_ (h := ?_)
         refine pa_ 14 31 (bm 43 0x7fff) HT_ (h := ?_)
         refine pa_ 15 32 (bm 43 0xffff) HT_ (h := ?_)
         refine pa_ 18 35 (bm 43 0x4ffff) HT_ (h := ?_)
         refine pa_ 19 36 (bm 43 0xcffff) HT_ (h := ?_)
         refine pa_ 20 37 (bm 43 0x1cffff) HT_ (h := ?_)
         refine pa_ 21 38 (bm 43 0x3cffff) HT_ (h := ?_)
         refine take_ (i := 16) (N := some 33) (v := ?_) (a' := ?_) (bm 43 0x3dffff) rfl rfl (take_ofW HT_.out HW_.out (by kernel_rfl)) (fun _ _ _ h => h) (Or.inl ⟨by rfl, ?_⟩) hHeld ?_ ?_
         rotate_left
         ·
          rintro w' ⟨s0, s1, s2, s3, s4, s5, s6, s7, s8, s9, s10, s11, s12, s13, s14, s15, s16, s17, s18, s19, s20, s21, s22, s23, s24, s25, s26, s27, s28, s29, s30, s31, s32, s33, s34, s35⟩
          go_simp
          with_reducible rfl
         rotate_left
         ·
          simp only [Act.put, sbA, sbB, sbC, i64_w, i32_w]
          rfl
         refine take_ (i := 22) (N := some 39) (v := ?_) (a' := ?_) (bm 43 0x7dffff) rfl rfl (take_ofW HT_.out HW_.out (by kernel_rfl)) (fun _ _ _ h => h) (Or.inl ⟨by rfl, ?_⟩) hHeld ?_ ?_
         rotate_left
         ·
          rintro w' ⟨s0, s1, s2, s3, s4, s5, s6, s7, s8, s9, s10, s11, s12, s13, s14, s15, s16, s17, s18, s19, s20, s21, s22, s23, s24, s25, s26, s27, s28, s29, s30, s31, s32, s33, s34, s35⟩
          go_simp
          with_reducible rfl
         rotate_left
         ·
          simp only [Act.put, sbA, sbB, sbC, i64_w, i32_w]
          rfl
         refine one_ (i := 17) (N := some 34) (bm 43 0x7fffff) rfl rfl (one_of HT_.out (by kernel_rfl)) (by decide) (fun K hK => ?_)
         refine goes_ Try.func15 (by kernel_rfl) rfl #[.agg #[.slice A327_3 ((rd_T76 l0 x5_1).f1.f0).length c327_3, .int .i64 ((rd_T76 l0 x5_1).f1.f1), .int .i64 ((rd_T76 l0 x5_1).f1.f2)]] (by rfl) rfl rfl (by (try simp only [List.map_toArray, List.map_cons, List.map_nil]); rfl) ?_
         with_reducible refine (remontoirlaw03_As.calls (fun k_ => k_ < w.heap.size) _ _ ((rd_T76 l0 x5_1).f1.f0) ((rd_T76 l0 x5_1).f1.f1) ((rd_T76 l0 x5_1).f1.f2) t330 t333 t334 _ ?side1 A9.out).mono ?_
         (case side1 => exact Kd.V_mk HC329_3.out (Kd.F_below (Kd.C_F (Kd.heap_int .i64) HR329_3.out) HB.out))
         rintro e w40 ⟨v331, rfl, ho0, hb⟩
         refine ⟨_, rfl, ?_⟩
         have n0_ := Aside0.mk (Kd.V_lower (Kd.V_mono (ok' := fun k_ => True) ho0 (fun k_ hk_ => trivial)) (below_size HB.out))
         have HO332 := n0_; clear n0_; replace HB := hb_ HB hb
         (try clear hb)
         (try clear hb2)
         (try clear hk)
         (try clear hi)
         (try clear ho0)
         refine hK.out _ _ ⟨bc_ HB.out hw327_0, bc_ HB.out hw327_1, bc_ HB.out hw327_2, bc_ HB.out hw327_3, bc_ HB.out hw327_4, bc_ HB.out hw327_5, bc_ HB.out hw327_6, bc_ HB.out hw327_7, bc_ HB.out hw327_8, bc_ HB.out hw328_0, bc_ HB.out hw328_1, bc_ HB.out hw328_2, bc_ HB.out hw328_3, bc_ HB.out hw328_4, bc_ HB.out hw328_5, bc_ HB.out hw328_6, bc_ HB.out hw328_7, bc_ HB.out hw328_8, bc_ HB.out hw329_0, bc_ HB.out hw329_1, bc_ HB.out hw329_2, bc_ HB.out hw329_3, bc_ HB.out hw329_4, bc_ HB.out hw329_5, bc_ HB.out hw329_6, bc_ HB.out hw329_7, bc_ HB.out hw329_8, bc_ HB.out hw335_0, bc_ HB.out hw335_1, bc_ HB.out hw335_2, bc_ HB.out hw335_3, bc_ HB.out hw335_4, bc_ HB.out hw335_5, bc_ HB.out hw335_6, bc_ HB.out hw335_7, bc_ HB.out hw335_8⟩ (fun hHeld => ?_)
         clear hK K
         refine nm_ 34 (h := ?_)
         refine one_ (i := 23) (N := some 40) (bm 43 0xffffff) rfl rfl (one_of HT_.out (by kernel_rfl)) (by decide) (fun K hK => ?_)
         refine goes_ Try.func15 (by kernel_rfl) rfl #[.agg #[.slice A328_3 ((rd_T76 l1 x5_1).f1.f0).length c328_3, .int .i64 ((rd_T76 l1 x5_1).f1.f1), .int .i64 ((rd_T76 l1 x5_1).f1.f2)]] (by rfl) rfl rfl (by (try simp only [List.map_toArray, List.map_cons, List.map_nil]); rfl) ?_
         with_reducible refine (remontoirlaw03_As.calls (fun k_ => k_ < w.heap.size) _ _ ((rd_T76 l1 x5_1).f1.f0) ((rd_T76 l1 x5_1).f1.f1) ((rd_T76 l1 x5_1).f1.f2) t336 t339 t340 _ ?side1 A10.out).mono ?_
         (case side1 => exact Kd.V_mk HC335_3.out (Kd.F_below (Kd.C_F (Kd.heap_int .i64) HR335_3.out) HB.out))
         rintro e w41 ⟨v337, rfl, ho0, hb⟩
         refine ⟨_, rfl, ?_⟩
         have n1_ := Aside0.mk (Kd.V_lower (Kd.V_mono (ok' := fun k_ => True) ho0 (fun k_ hk_ => trivial)) (below_size HB.out))
         have HO338 := n1_; clear n1_; replace HO332 := vb_ HO332 hb; replace HB := hb_ HB hb
         (try clear hb)
         (try clear hb2)
         (try clear hk)
         (try clear hi)
         (try clear ho0)
         obtain ⟨Ao42, co42, eo42⟩ := Kd.V_slice HO332.out
         ((subst eo42))
         obtain ⟨Ao43, co43, eo43⟩ := Kd.V_slice HO338.out
         ((subst eo43))
         refine hK.out _ _ ⟨bc_ HB.out hw327_0, bc_ HB.out hw327_1, bc_ HB.out hw327_2, bc_ HB.out hw327_3, bc_ HB.out hw327_4, bc_ HB.out hw327_5, bc_ HB.out hw327_6, bc_ HB.out hw327_7, bc_ HB.out hw327_8, bc_ HB.out hw328_0, bc_ HB.out hw328_1, bc_ HB.out hw328_2, bc_ HB.out hw328_3, bc_ HB.out hw328_4, bc_ HB.out hw328_5, bc_ HB.out hw328_6, bc_ HB.out hw328_7, bc_ HB.out hw328_8, bc_ HB.out hw329_0, bc_ HB.out hw329_1, bc_ HB.out hw329_2, bc_ HB.out hw329_3, bc_ HB.out hw329_4, bc_ HB.out hw329_5, bc_ HB.out hw329_6, bc_ HB.out hw329_7, bc_ HB.out hw329_8, bc_ HB.out hw335_0, bc_ HB.out hw335_1, bc_ HB.out hw335_2, bc_ HB.out hw335_3, bc_ HB.out hw335_4, bc_ HB.out hw335_5, bc_ HB.out hw335_6, bc_ HB.out hw335_7, bc_ HB.out hw335_8⟩ (fun hHeld => ?_)
         clear hK K
         refine nm_ 40 (h := ?_)
         refine one_ (i := 24) (N := some 41) (bm 43 0x1ffffff) rfl rfl (one_of HT_.out (by kernel_rfl)) (by decide) (fun K hK => ?_)
         refine goes_ Try.func20 (by kernel_rfl) rfl #[.agg #[.slice Ao42 t330.length co42, .int .i64 t333, .int .i64 t334], .agg #[.slice Ao43 t336.length co43, .int .i64 t339, .int .i64 t340]] (by rfl) rfl rfl (by (try simp only [List.map_toArray, List.map_cons, List.map_nil]); rfl) ?_
         with_reducible refine (remontoirref03_Same.calls k1 _ _ t330 t333 t334 _ _ t336 t339 t340 false _ ?side1 ?side2 ?side3 ?side4 A11.out).mono ?_
         (case side1 => repeat ((exact (Kd.V_reads' HO332.out).2.2)))
         (case side2 => exact (Kd.V_reads' HO332.out).2.1)
         (case side3 => repeat ((exact (Kd.V_reads' HO338.out).2.2)))
         (case side4 => exact (Kd.V_reads' HO338.out).2.1)
         rintro e w44 ⟨rfl, hb⟩
         refine ⟨_, rfl, ?_⟩
         replace HO332 := vb_ HO332 hb; replace HO338 := vb_ HO338 hb; replace HB := hb_ HB hb
         (try clear hb)
         (try clear hb2)
         (try clear hk)
         (try clear hi)
         refine hK.out _ _ ⟨bc_ HB.out hw327_0, bc_ HB.out hw327_1, bc_ HB.out hw327_2, bc_ HB.out hw327_3, bc_ HB.out hw327_4, bc_ HB.out hw327_5, bc_ HB.out hw327_6, bc_ HB.out hw327_7, bc_ HB.out hw327_8, bc_ HB.out hw328_0, bc_ HB.out hw328_1, bc_ HB.out hw328_2, bc_ HB.out hw328_3, bc_ HB.out hw328_4, bc_ HB.out hw328_5, bc_ HB.out hw328_6, bc_ HB.out hw328_7, bc_ HB.out hw328_8, bc_ HB.out hw329_0, bc_ HB.out hw329_1, bc_ HB.out hw329_2, bc_ HB.out hw329_3, bc_ HB.out hw329_4, bc_ HB.out hw329_5, bc_ HB.out hw329_6, bc_ HB.out hw329_7, bc_ HB.out hw329_8, bc_ HB.out hw335_0, bc_ HB.out hw335_1, bc_ HB.out hw335_2, bc_ HB.out hw335_3, bc_ HB.out hw335_4, bc_ HB.out hw335_5, bc_ HB.out hw335_6, bc_ HB.out hw335_7, bc_ HB.out hw335_8⟩ (fun hHeld => ?_)
         clear hK K
         refine nm_ 41 (h := ?_)
         refine pa_ 25 42 (bm 43 0x3ffffff) HT_ (h := ?_)
         refine pa_ 26 43 (bm 43 0x7ffffff) HT_ (h := ?_)
         refine pa_ 27 44 (bm 43 0xfffffff) HT_ (h := ?_)
         refine pz_ 28 45 (bm 43 0x1fffffff) HT_ (h := ?_)
         refine pz_ 29 46 (bm 43 0x3fffffff) HT_ (h := ?_)
         refine pz_ 30 47 (bm 43 0x7fffffff) HT_ (h := ?_)
         refine pz_ 31 48 (bm 43 0xffffffff) HT_ (h := ?_)
         refine pz_ 32 49 (bm 43 0x1ffffffff) HT_ (h := ?_)
         refine pz_ 33 50 (bm 43 0x3ffffffff) HT_ (h := ?_)
         refine pz_ 34 51 (bm 43 0x7ffffffff) HT_ (h := ?_)
         refine pz_ 35 52 (bm 43 0xfffffffff) HT_ (h := ?_)
         refine pz_ 36 53 (bm 43 0x1fffffffff) HT_ (h := ?_)
         refine pz_ 37 54 (bm 43 0x3fffffffff) HT_ (h := ?_)
         refine pz_ 38 55 (bm 43 0x7fffffffff) HT_ (h := ?_)
         refine pz_ 39 56 (bm 43 0xffffffffff) HT_ (h := ?_)
         refine pz_ 40 57 (bm 43 0x1ffffffffff) HT_ (h := ?_)
         refine pz_ 41 58 (bm 43 0x3ffffffffff) HT_ (h := ?_)
         refine pa_ 42 59 (bm 43 0x7ffffffffff) HT_ (h := ?_)
         refine done_ (done_of HT_.out (by kernel_rfl)) ?_
         try go_wp2
         go_ret
         exact ⟨by rfl, by repeat ((with_reducible (exact HB.out)))⟩
      ·
       rw [if_neg c6] at H
       exact absurd H (by simp)
     ·
      rw [if_neg c5] at H
      exact absurd H (by simp)
    ·
     rw [if_neg c4] at H
     have c4b0 : decide (x5_1 < (l0.length : Int)) = false := decide_eq_false c4
     clear c4
     obtain rfl := Option.some.inj H
     go_wp2
     go_ret
     exact ⟨by rfl, by repeat ((with_reducible (exact HB.out)))⟩
 ·
  rw [if_neg c3] at H
  have c3b0 : ((l0.length : Int) == (l1.length : Int)) = false := beq_eq_false_iff_ne.mpr c3
  have c3b1 : ((l0.length : Int) != (l1.length : Int)) = true := bne_iff_ne.mpr c3
  have c3b2 : (l0.length == l1.length) = false := by (simp at c3 ⊢; omega)
  obtain rfl := Option.some.inj H
  go_enter Try.func34, Try.ntmps34
  go_wp2
  go_ret
  exact ⟨by rfl, by repeat ((with_reducible (exact HB.out)))⟩

end Go.Proofs.Yteddflcloeelhaa.FPort
