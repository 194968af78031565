-- Written by the session (wip/tools) for this claim: functions of the program as Lean functions, and their contracts.
import Derived.Test.YteddflcloeelhaaZXShort
import Derived.Test.YteddflcloeelhaaZFPortx0
import Derived.Test.YteddflcloeelhaaZFPortx1
import Derived.Test.YteddflcloeelhaaZFPortx8
namespace Go.Proofs.Yteddflcloeelhaa.FPort
open Go.RowKit Go.Proofs.YteddflcloeelhaaW.PrintWords Go.Proofs.YteddflcloeelhaaW.PrintLast Go.Proofs.YteddflcloeelhaaW.PrintMore
attribute [local go_sem] max2_int min2_int max_two min_two max_three min_three max_four min_four   -- for this text's walks alone
set_option linter.unusedVariables false
set_option linter.unusedSimpArgs false

attribute [local go_sem high] eqA51
/-! ### remontoirlaw18_Same: function 38 -/
def remontoirlaw18_Same.l0 : Nat → List (S63) → List (S63) → Int → Option (Bool)
  | 0, _, _, _ => none
  | k + 1, x0, x1, x5 => if x5 < (x0.length : Int) then (if 0 ≤ x5 then (if x5 < (x1.length : Int) then (if (!(((rd_T63 x0 x5).f0.f0) == ((rd_T63 x1 x5).f0.f0)) || (!(((rd_T63 x0 x5).f0.f1) == ((rd_T63 x1 x5).f0.f1)) || (!(((rd_T63 x0 x5).f0.f2) == ((rd_T63 x1 x5).f0.f2))))) = true then (some false) else ((remontoirref03_SameList.f k ((rd_T63 x0 x5).f1) ((rd_T63 x1 x5).f1)).bind fun t399 => (if t399 = true then ((remontoirref03_SameList.f k ((rd_T63 x0 x5).f2) ((rd_T63 x1 x5).f2)).bind fun t402 => (if t402 = true then (remontoirlaw18_Same.l0 k x0 x1 (wrap64 (x5 + 1))) else (some false))) else (some false)))) else (none)) else (none)) else (some true)
def remontoirlaw18_Same.f (k : Nat) (l0 : List (S63)) (l1 : List (S63)) : Option (Bool) := if (l0.length : Int) = (l1.length : Int) then (remontoirlaw18_Same.l0 k l0 l1 0) else (some false)
theorem remontoirlaw18_Same.mono_l : ∀ k, (∀ y0 y1 y2, LeO (remontoirlaw18_Same.l0 k y0 y1 y2) (remontoirlaw18_Same.l0 (k + 1) y0 y1 y2))
  | 0 => fun _ _ _ r h => by simp [remontoirlaw18_Same.l0] at h
  | k + 1 => by
    have ih0 := remontoirlaw18_Same.mono_l k
    · intro y0 y1 y2
      unfold remontoirlaw18_Same.l0
      repeat' first | (with_reducible exact ih0 _ _ _) | (with_reducible exact remontoirref03_SameList.mono _ _ _) | (with_reducible exact LeO.refl _) | (with_reducible refine LeO.ite ?_ ?_) | (with_reducible refine LeO.bind ?_ (fun _ => ?_))
theorem remontoirlaw18_Same.mono : ∀ a0 a1 k, LeO (remontoirlaw18_Same.f k a0 a1) (remontoirlaw18_Same.f (k + 1) a0 a1) := by
  intro a0 a1 k
  have ih0 := remontoirlaw18_Same.mono_l k
  unfold remontoirlaw18_Same.f
  repeat' first | (with_reducible exact ih0 _ _ _) | (with_reducible exact LeO.refl _) | (with_reducible refine LeO.ite ?_ ?_)
def remontoirlaw18_Same.T6 : Bool × List (List Nat × List Nat) := (true, [([], []), ([], []), ([0, 1], [0, 1]), ([2], [2]), ([3], [3]), ([], []), ([], []), ([5, 6], [5, 6]), ([7], [7]), ([8], [8]), ([4, 9], [4, 9]), ([10], [10]), ([11], [11]), ([11], [11]), ([12, 13, 11], [11, 12, 13]), ([14, 11], [11, 14]), ([15, 11], [11, 15]), ([11], [11]), ([11], [11]), ([17, 18, 11], [11, 17, 18]), ([19, 11], [11, 19]), ([20, 11], [11, 20]), ([16, 21, 11, 11], [11, 16, 21]), ([22, 11], [11, 22]), ([11, 23], [11, 23]), ([24, 22], [24]), ([25], [25]), ([25], [25]), ([26, 27, 25], [25, 26, 27]), ([28, 25], [25, 28]), ([29, 25], [25, 29]), ([25], [25]), ([25], [25]), ([31, 32, 25], [25, 31, 32]), ([33, 25], [25, 33]), ([34, 25], [25, 34]), ([30, 35, 25, 25], [25, 30, 35]), ([36, 25], [25, 36]), ([25, 37], [25, 37])])
def remontoirlaw18_Same.B6 : List Nat := [0, 0, 3, 7, 15, 0, 0, 96, 224, 480, 1023, 2047, 4095, 4095, 16383, 32767, 65535, 4095, 4095, 397311, 921599, 1970175, 4194303, 8388607, 16777215, 33554431, 67108863, 67108863, 268435455, 536870911, 1073741823, 67108863, 67108863, 6509559807, 15099494399, 32279363583, 68719476735, 137438953471, 274877906943]
theorem remontoirlaw18_Same.tab6 : rtab .any (opsOf Try.f38 6) = remontoirlaw18_Same.T6 := by kernel_rfl
theorem remontoirlaw18_Same.bits6 : waitsOk remontoirlaw18_Same.T6.2 remontoirlaw18_Same.B6 = true := by kernel_rfl
set_option maxHeartbeats 8000000 in
set_option maxRecDepth 100000 in
theorem remontoirlaw18_Same.calls (k : Nat) (A0 : Option Addr) (c0 : Nat) (l0 : List (S63)) (A1 : Option Addr) (c1 : Nat) (l1 : List (S63)) (r : Bool) (w : World) (hr0 : Kd.C k63 w A0 l0.length l0) (hc0 : l0.length ≤ c0) (hr1 : Kd.C k63 w A1 l1.length l1) (hc1 : l1.length ≤ c1) (h : remontoirlaw18_Same.f k l0 l1 = some r) :
    Calls Try.prog 38 #[.slice A0 l0.length c0, .slice A1 l1.length c1] w fun e w' => e = .returned (.bool r) ∧ Below w.heap.size w w' := by
  have hu51 := Try.underlying51
  have HR0 := Aside0.mk hr0
  have HC0 := Aside0.mk hc0
  clear hr0 hc0
  have HR1 := Aside0.mk hr1
  have HC1 := Aside0.mk hc1
  clear hr1 hc1
  have HB := Aside0.mk (Below.refl w.heap.size w)
  have H : (if (l0.length : Int) = (l1.length : Int) then (remontoirlaw18_Same.l0 k l0 l1 0) else (some false)) = some r := h
  clear h
  by_cases c3 : (l0.length : Int) = (l1.length : Int)
  · rw [if_pos c3] at H
    have c3b0 : ((l0.length : Int) == (l1.length : Int)) = true := beq_iff_eq.mpr c3
    have c3b1 : ((l0.length : Int) != (l1.length : Int)) = false := bne_eq_false_iff_eq.mpr c3
    have c3b2 : (l0.length == l1.length) = true := by (simp at c3 ⊢; omega)
    clear c3
    have H' := Aside0.mk H
    clear H
    go_enter Try.func38, Try.ntmps38
    go_wp2
    go_loopg [5] k (fun kq v5 w' => ∃ (x5_1 : Int), v5 = .int .i64 x5_1 ∧ Aside0 (remontoirlaw18_Same.l0 kq l0 l1 x5_1 = some r) ∧ Aside0 (kq ≤ k) ∧ Aside0 (Below w.heap.size w w'))
    case atStart => exact ⟨(0), (by rfl), H', ⟨Nat.le_refl _⟩, ⟨HB.out⟩⟩
    case round =>
      clear H'
      try clear c1
      try clear p2
      try clear c3
      try clear c3b0
      try clear c3b1
      try clear c3b2
      obtain ⟨x5_1, rfl, HA, HK1, HB⟩ := hrel
      cases gk with
      | zero => exact absurd HA.out (by simp [remontoirlaw18_Same.l0])
      | succ k1 =>
        have H := HA.out
        clear HA
        simp only [remontoirlaw18_Same.l0] at H
        by_cases c4 : x5_1 < (l0.length : Int)
        · rw [if_pos c4] at H
          have c4b0 : decide (x5_1 < (l0.length : Int)) = true := decide_eq_true c4
          clear c4
          by_cases c5 : 0 ≤ x5_1
          · rw [if_pos c5] at H
            have c5b0 : decide (0 ≤ x5_1) = true := decide_eq_true c5
            clear c5
            by_cases c6 : x5_1 < (l1.length : Int)
            · rw [if_pos c6] at H
              have c6b0 : decide (x5_1 < (l1.length : Int)) = true := decide_eq_true c6
              clear c6
              by_cases c7 : (!(((rd_T63 l0 x5_1).f0.f0) == ((rd_T63 l1 x5_1).f0.f0)) || (!(((rd_T63 l0 x5_1).f0.f1) == ((rd_T63 l1 x5_1).f0.f1)) || (!(((rd_T63 l0 x5_1).f0.f2) == ((rd_T63 l1 x5_1).f0.f2))))) = true
              · rw [if_pos c7] at H
                have c7b0 : (!(((rd_T63 l0 x5_1).f0.f0) == ((rd_T63 l1 x5_1).f0.f0)) || (!(((rd_T63 l0 x5_1).f0.f1) == ((rd_T63 l1 x5_1).f0.f1)) || (!(((rd_T63 l0 x5_1).f0.f2) == ((rd_T63 l1 x5_1).f0.f2))))) = true := c7
                clear c7
                obtain rfl := Option.some.inj H
                try go_wp2
                have n0_ := Aside0.mk (below_drew1 HB.out)
                clear HB; have HB := n0_; clear n0_
                have p395 : 0 ≤ (x5_1 : Int) := of_decide_eq_true (by (with_reducible assumption))
                have q395 : x5_1 < (l0.length : Int) := of_decide_eq_true (by (with_reducible assumption))
                obtain ⟨ad395, A395_3, c395_3, A395_4, c395_4, e395, hx395_0, hx395_1, hx395_2, hx395_3, hx395_4, hl395_3, hi395_3, hl395_4, hi395_4⟩ := at_T63 HR0.out x5_1 p395 q395
                have hw395_4 := hx395_4
                have hw395_3 := hx395_3
                have hw395_2 := hx395_2
                have hw395_1 := hx395_1
                have hw395_0 := hx395_0
                cases e395
                replace hx395_0 := (HB.out.cell (World.block_lt_of_cell? w _ hx395_0)).trans hx395_0
                replace hx395_1 := (HB.out.cell (World.block_lt_of_cell? w _ hx395_1)).trans hx395_1
                replace hx395_2 := (HB.out.cell (World.block_lt_of_cell? w _ hx395_2)).trans hx395_2
                replace hx395_3 := (HB.out.cell (World.block_lt_of_cell? w _ hx395_3)).trans hx395_3
                replace hx395_4 := (HB.out.cell (World.block_lt_of_cell? w _ hx395_4)).trans hx395_4
                have HR395_3 := Aside0.mk hi395_3
                have HC395_3 := Aside0.mk hl395_3
                clear hi395_3 hl395_3
                have HR395_4 := Aside0.mk hi395_4
                have HC395_4 := Aside0.mk hl395_4
                clear hi395_4 hl395_4
                replace p395 := eq_true p395
                replace q395 := eq_true q395
                have p396 : 0 ≤ (x5_1 : Int) := of_decide_eq_true (by (with_reducible assumption))
                have q396 : x5_1 < (l1.length : Int) := of_decide_eq_true (by (with_reducible assumption))
                obtain ⟨ad396, A396_3, c396_3, A396_4, c396_4, e396, hx396_0, hx396_1, hx396_2, hx396_3, hx396_4, hl396_3, hi396_3, hl396_4, hi396_4⟩ := at_T63 HR1.out x5_1 p396 q396
                have hw396_4 := hx396_4
                have hw396_3 := hx396_3
                have hw396_2 := hx396_2
                have hw396_1 := hx396_1
                have hw396_0 := hx396_0
                cases e396
                replace hx396_0 := (HB.out.cell (World.block_lt_of_cell? w _ hx396_0)).trans hx396_0
                replace hx396_1 := (HB.out.cell (World.block_lt_of_cell? w _ hx396_1)).trans hx396_1
                replace hx396_2 := (HB.out.cell (World.block_lt_of_cell? w _ hx396_2)).trans hx396_2
                replace hx396_3 := (HB.out.cell (World.block_lt_of_cell? w _ hx396_3)).trans hx396_3
                replace hx396_4 := (HB.out.cell (World.block_lt_of_cell? w _ hx396_4)).trans hx396_4
                have HR396_3 := Aside0.mk hi396_3
                have HC396_3 := Aside0.mk hl396_3
                clear hi396_3 hl396_3
                have HR396_4 := Aside0.mk hi396_4
                have HC396_4 := Aside0.mk hl396_4
                clear hi396_4 hl396_4
                replace p396 := eq_true p396
                replace q396 := eq_true q396
                refine start_ (n := 39) (S := fun w' => hc5_ w' (ad395.add ((x5_1).toNat * 5)) (.int .i64 ((rd_T63 l0 x5_1).f0.f0)) (.int .i64 ((rd_T63 l0 x5_1).f0.f1)) (.int .i64 ((rd_T63 l0 x5_1).f0.f2)) (.slice A395_3 ((rd_T63 l0 x5_1).f1).length c395_3) (.slice A395_4 ((rd_T63 l0 x5_1).f2).length c395_4) (he5_ w' (ad396.add ((x5_1).toNat * 5)) (.int .i64 ((rd_T63 l1 x5_1).f0.f0)) (.int .i64 ((rd_T63 l1 x5_1).f0.f1)) (.int .i64 ((rd_T63 l1 x5_1).f0.f2)) (.slice A396_3 ((rd_T63 l1 x5_1).f1).length c396_3) (.slice A396_4 ((rd_T63 l1 x5_1).f2).length c396_4))) (ds := []) #[false, false, false, false, false, false, false, false, false, false, false, false, false, false, false, false, false, false, false, false, false, false, false, false, false, false, false, false, false, false, false, false, false, false, false, false, false, false, false] (by kernel_rfl) rfl rfl ⟨((HB.out.cell (World.block_lt_of_cell? w _ hw395_0)).trans hw395_0), ((HB.out.cell (World.block_lt_of_cell? w _ hw395_1)).trans hw395_1), ((HB.out.cell (World.block_lt_of_cell? w _ hw395_2)).trans hw395_2), ((HB.out.cell (World.block_lt_of_cell? w _ hw395_3)).trans hw395_3), ((HB.out.cell (World.block_lt_of_cell? w _ hw395_4)).trans hw395_4), ((HB.out.cell (World.block_lt_of_cell? w _ hw396_0)).trans hw396_0), ((HB.out.cell (World.block_lt_of_cell? w _ hw396_1)).trans hw396_1), ((HB.out.cell (World.block_lt_of_cell? w _ hw396_2)).trans hw396_2), ((HB.out.cell (World.block_lt_of_cell? w _ hw396_3)).trans hw396_3), ((HB.out.cell (World.block_lt_of_cell? w _ hw396_4)).trans hw396_4)⟩ (fun hHeld => ?_); refine with_tabW remontoirlaw18_Same.tab6 remontoirlaw18_Same.bits6 (fun HT_ HW_ => ?_)
                generalize wr.drew = w8 at HB HR395_3 HR395_4 HR396_3 HR396_4 hx395_0 hx395_1 hx395_2 hx395_3 hx395_4 hx396_0 hx396_1 hx396_2 hx396_3 hx396_4 hHeld ⊢
                refine pa_ 0 17 (bm 39 0x1) HT_ (h := ?_)
                refine pa_ 1 18 (bm 39 0x3) HT_ (h := ?_)
                refine pa_ 2 19 (bm 39 0x7) HT_ (h := ?_)
                refine pa_ 3 20 (bm 39 0xf) HT_ (h := ?_)
                refine pa_ 5 22 (bm 39 0x2f) HT_ (h := ?_)
                refine pa_ 6 23 (bm 39 0x6f) HT_ (h := ?_)
                refine pa_ 7 24 (bm 39 0xef) HT_ (h := ?_)
                refine pa_ 8 25 (bm 39 0x1ef) HT_ (h := ?_)
                refine take_ (i := 4) (N := some 21) (v := ?_) (a' := ?_) (bm 39 0x1ff) rfl rfl (take_ofW HT_.out HW_.out (by kernel_rfl)) (fun _ _ _ h => h) (Or.inl ⟨by rfl, ?_⟩) hHeld ?_ ?_
                rotate_left
                · rintro w' ⟨s0, s1, s2, s3, s4, s5, s6, s7, s8, s9⟩
                  go_simp
                  with_reducible rfl
                rotate_left
                · simp only [Act.put, List.setIfInBounds_toArray, List.set_cons_zero, List.set_cons_succ, i64_w, i32_w]
                  rfl
                refine take_ (i := 9) (N := some 26) (v := ?_) (a' := ?_) (bm 39 0x3ff) rfl rfl (take_ofW HT_.out HW_.out (by kernel_rfl)) (fun _ _ _ h => h) (Or.inl ⟨by rfl, ?_⟩) hHeld ?_ ?_
                rotate_left
                · rintro w' ⟨s0, s1, s2, s3, s4, s5, s6, s7, s8, s9⟩
                  go_simp
                  with_reducible rfl
                rotate_left
                · simp only [Act.put, List.setIfInBounds_toArray, List.set_cons_zero, List.set_cons_succ, i64_w, i32_w]
                  rfl
                refine pa_ 10 27 (bm 39 0x7ff) HT_ (h := ?_)
                refine pa_ 11 28 (bm 39 0xfff) HT_ (h := ?_)
                refine pz_ 12 29 (bm 39 0x1fff) HT_ (h := ?_)
                refine pz_ 13 30 (bm 39 0x3fff) HT_ (h := ?_)
                refine pz_ 14 31 (bm 39 0x7fff) HT_ (h := ?_)
                refine pz_ 15 32 (bm 39 0xffff) HT_ (h := ?_)
                refine pz_ 16 33 (bm 39 0x1ffff) HT_ (h := ?_)
                refine pz_ 17 34 (bm 39 0x3ffff) HT_ (h := ?_)
                refine pz_ 18 35 (bm 39 0x7ffff) HT_ (h := ?_)
                refine pz_ 19 36 (bm 39 0xfffff) HT_ (h := ?_)
                refine pz_ 20 37 (bm 39 0x1fffff) HT_ (h := ?_)
                refine pz_ 21 38 (bm 39 0x3fffff) HT_ (h := ?_)
                refine pz_ 22 39 (bm 39 0x7fffff) HT_ (h := ?_)
                refine pz_ 23 40 (bm 39 0xffffff) HT_ (h := ?_)
                refine pa_ 24 41 (bm 39 0x1ffffff) HT_ (h := ?_)
                refine pa_ 25 42 (bm 39 0x3ffffff) HT_ (h := ?_)
                refine pz_ 26 43 (bm 39 0x7ffffff) HT_ (h := ?_)
                refine pz_ 27 44 (bm 39 0xfffffff) HT_ (h := ?_)
                refine pz_ 28 45 (bm 39 0x1fffffff) HT_ (h := ?_)
                refine pz_ 29 46 (bm 39 0x3fffffff) HT_ (h := ?_)
                refine pz_ 30 47 (bm 39 0x7fffffff) HT_ (h := ?_)
                refine pz_ 31 48 (bm 39 0xffffffff) HT_ (h := ?_)
                refine pz_ 32 49 (bm 39 0x1ffffffff) HT_ (h := ?_)
                refine pz_ 33 50 (bm 39 0x3ffffffff) HT_ (h := ?_)
                refine pz_ 34 51 (bm 39 0x7ffffffff) HT_ (h := ?_)
                refine pz_ 35 52 (bm 39 0xfffffffff) HT_ (h := ?_)
                refine pz_ 36 53 (bm 39 0x1fffffffff) HT_ (h := ?_)
                refine pz_ 37 54 (bm 39 0x3fffffffff) HT_ (h := ?_)
                refine pa_ 38 55 (bm 39 0x7fffffffff) HT_ (h := ?_)
                refine done_ (done_of HT_.out (by kernel_rfl)) ?_
                try go_wp2
                go_ret
                exact ⟨by rfl, by repeat ((with_reducible (exact HB.out)))⟩
              · rw [if_neg c7] at H
                have c7b0 : (!(((rd_T63 l0 x5_1).f0.f0) == ((rd_T63 l1 x5_1).f0.f0)) || (!(((rd_T63 l0 x5_1).f0.f1) == ((rd_T63 l1 x5_1).f0.f1)) || (!(((rd_T63 l0 x5_1).f0.f2) == ((rd_T63 l1 x5_1).f0.f2))))) = false := by simpa using c7
                clear c7
                replace H := Option.bind_eq_some_iff.mp H
                obtain ⟨t399, A90, H⟩ := H
                replace H : (if t399 = true then ((remontoirref03_SameList.f k1 ((rd_T63 l0 x5_1).f2) ((rd_T63 l1 x5_1).f2)).bind fun t402 => (if t402 = true then (remontoirlaw18_Same.l0 k1 l0 l1 (wrap64 (x5_1 + 1))) else (some false))) else (some false)) = some r := H
                have A9 := Aside0.mk A90
                clear A90
                by_cases c10 : t399 = true
                · subst c10
                  have H1 : ((remontoirref03_SameList.f k1 ((rd_T63 l0 x5_1).f2) ((rd_T63 l1 x5_1).f2)).bind fun t402 => (if t402 = true then (remontoirlaw18_Same.l0 k1 l0 l1 (wrap64 (x5_1 + 1))) else (some false))) = some r := by rw [if_pos rfl] at H; exact H
                  clear H
                  have H := H1
                  clear H1
                  replace H := Option.bind_eq_some_iff.mp H
                  obtain ⟨t402, A110, H⟩ := H
                  replace H : (if t402 = true then (remontoirlaw18_Same.l0 k1 l0 l1 (wrap64 (x5_1 + 1))) else (some false)) = some r := H
                  have A11 := Aside0.mk A110
                  clear A110
                  by_cases c12 : t402 = true
                  · subst c12
                    have H1 : (remontoirlaw18_Same.l0 k1 l0 l1 (wrap64 (x5_1 + 1))) = some r := by rw [if_pos rfl] at H; exact H
                    clear H
                    have H := H1
                    clear H1
                    have H' := Aside0.mk H
                    clear H
                    try go_wp2
                    have n0_ := Aside0.mk (below_drew1 HB.out)
                    clear HB; have HB := n0_; clear n0_
                    have p395 : 0 ≤ (x5_1 : Int) := of_decide_eq_true (by (with_reducible assumption))
                    have q395 : x5_1 < (l0.length : Int) := of_decide_eq_true (by (with_reducible assumption))
                    obtain ⟨ad395, A395_3, c395_3, A395_4, c395_4, e395, hx395_0, hx395_1, hx395_2, hx395_3, hx395_4, hl395_3, hi395_3, hl395_4, hi395_4⟩ := at_T63 HR0.out x5_1 p395 q395
                    have hw395_4 := hx395_4
                    have hw395_3 := hx395_3
                    have hw395_2 := hx395_2
                    have hw395_1 := hx395_1
                    have hw395_0 := hx395_0
                    cases e395
                    replace hx395_0 := (HB.out.cell (World.block_lt_of_cell? w _ hx395_0)).trans hx395_0
                    replace hx395_1 := (HB.out.cell (World.block_lt_of_cell? w _ hx395_1)).trans hx395_1
                    replace hx395_2 := (HB.out.cell (World.block_lt_of_cell? w _ hx395_2)).trans hx395_2
                    replace hx395_3 := (HB.out.cell (World.block_lt_of_cell? w _ hx395_3)).trans hx395_3
                    replace hx395_4 := (HB.out.cell (World.block_lt_of_cell? w _ hx395_4)).trans hx395_4
                    have HR395_3 := Aside0.mk hi395_3
                    have HC395_3 := Aside0.mk hl395_3
                    clear hi395_3 hl395_3
                    have HR395_4 := Aside0.mk hi395_4
                    have HC395_4 := Aside0.mk hl395_4
                    clear hi395_4 hl395_4
                    replace p395 := eq_true p395
                    replace q395 := eq_true q395
                    have p396 : 0 ≤ (x5_1 : Int) := of_decide_eq_true (by (with_reducible assumption))
                    have q396 : x5_1 < (l1.length : Int) := of_decide_eq_true (by (with_reducible assumption))
                    obtain ⟨ad396, A396_3, c396_3, A396_4, c396_4, e396, hx396_0, hx396_1, hx396_2, hx396_3, hx396_4, hl396_3, hi396_3, hl396_4, hi396_4⟩ := at_T63 HR1.out x5_1 p396 q396
                    have hw396_4 := hx396_4
                    have hw396_3 := hx396_3
                    have hw396_2 := hx396_2
                    have hw396_1 := hx396_1
                    have hw396_0 := hx396_0
                    cases e396
                    replace hx396_0 := (HB.out.cell (World.block_lt_of_cell? w _ hx396_0)).trans hx396_0
                    replace hx396_1 := (HB.out.cell (World.block_lt_of_cell? w _ hx396_1)).trans hx396_1
                    replace hx396_2 := (HB.out.cell (World.block_lt_of_cell? w _ hx396_2)).trans hx396_2
                    replace hx396_3 := (HB.out.cell (World.block_lt_of_cell? w _ hx396_3)).trans hx396_3
                    replace hx396_4 := (HB.out.cell (World.block_lt_of_cell? w _ hx396_4)).trans hx396_4
                    have HR396_3 := Aside0.mk hi396_3
                    have HC396_3 := Aside0.mk hl396_3
                    clear hi396_3 hl396_3
                    have HR396_4 := Aside0.mk hi396_4
                    have HC396_4 := Aside0.mk hl396_4
                    clear hi396_4 hl396_4
                    replace p396 := eq_true p396
                    replace q396 := eq_true q396
                    have p397 : 0 ≤ (x5_1 : Int) := of_decide_eq_true (by (with_reducible assumption))
                    have q397 : x5_1 < (l0.length : Int) := of_decide_eq_true (by (with_reducible assumption))
                    obtain ⟨ad397, A397_3, c397_3, A397_4, c397_4, e397, hx397_0, hx397_1, hx397_2, hx397_3, hx397_4, hl397_3, hi397_3, hl397_4, hi397_4⟩ := at_T63 HR0.out x5_1 p397 q397
                    have hw397_4 := hx397_4
                    have hw397_3 := hx397_3
                    have hw397_2 := hx397_2
                    have hw397_1 := hx397_1
                    have hw397_0 := hx397_0
                    obtain rfl : ad395 = ad397 := (by injection e397)
                    replace hx397_0 := (HB.out.cell (World.block_lt_of_cell? w _ hx397_0)).trans hx397_0
                    replace hx397_1 := (HB.out.cell (World.block_lt_of_cell? w _ hx397_1)).trans hx397_1
                    replace hx397_2 := (HB.out.cell (World.block_lt_of_cell? w _ hx397_2)).trans hx397_2
                    replace hx397_3 := (HB.out.cell (World.block_lt_of_cell? w _ hx397_3)).trans hx397_3
                    replace hx397_4 := (HB.out.cell (World.block_lt_of_cell? w _ hx397_4)).trans hx397_4
                    have HR397_3 := Aside0.mk hi397_3
                    have HC397_3 := Aside0.mk hl397_3
                    clear hi397_3 hl397_3
                    have HR397_4 := Aside0.mk hi397_4
                    have HC397_4 := Aside0.mk hl397_4
                    clear hi397_4 hl397_4
                    replace p397 := eq_true p397
                    replace q397 := eq_true q397
                    have ea_ := Option.some.inj (hx395_3.symm.trans hx397_3)
                    injection ea_ with ea_ en_ ec_
                    subst ea_
                    subst ec_
                    clear en_
                    have ea_ := Option.some.inj (hx395_4.symm.trans hx397_4)
                    injection ea_ with ea_ en_ ec_
                    subst ea_
                    subst ec_
                    clear en_
                    have p398 : 0 ≤ (x5_1 : Int) := of_decide_eq_true (by (with_reducible assumption))
                    have q398 : x5_1 < (l1.length : Int) := of_decide_eq_true (by (with_reducible assumption))
                    obtain ⟨ad398, A398_3, c398_3, A398_4, c398_4, e398, hx398_0, hx398_1, hx398_2, hx398_3, hx398_4, hl398_3, hi398_3, hl398_4, hi398_4⟩ := at_T63 HR1.out x5_1 p398 q398
                    have hw398_4 := hx398_4
                    have hw398_3 := hx398_3
                    have hw398_2 := hx398_2
                    have hw398_1 := hx398_1
                    have hw398_0 := hx398_0
                    obtain rfl : ad396 = ad398 := (by injection e398)
                    replace hx398_0 := (HB.out.cell (World.block_lt_of_cell? w _ hx398_0)).trans hx398_0
                    replace hx398_1 := (HB.out.cell (World.block_lt_of_cell? w _ hx398_1)).trans hx398_1
                    replace hx398_2 := (HB.out.cell (World.block_lt_of_cell? w _ hx398_2)).trans hx398_2
                    replace hx398_3 := (HB.out.cell (World.block_lt_of_cell? w _ hx398_3)).trans hx398_3
                    replace hx398_4 := (HB.out.cell (World.block_lt_of_cell? w _ hx398_4)).trans hx398_4
                    have HR398_3 := Aside0.mk hi398_3
                    have HC398_3 := Aside0.mk hl398_3
                    clear hi398_3 hl398_3
                    have HR398_4 := Aside0.mk hi398_4
                    have HC398_4 := Aside0.mk hl398_4
                    clear hi398_4 hl398_4
                    replace p398 := eq_true p398
                    replace q398 := eq_true q398
                    have ea_ := Option.some.inj (hx396_3.symm.trans hx398_3)
                    injection ea_ with ea_ en_ ec_
                    subst ea_
                    subst ec_
                    clear en_
                    have ea_ := Option.some.inj (hx396_4.symm.trans hx398_4)
                    injection ea_ with ea_ en_ ec_
                    subst ea_
                    subst ec_
                    clear en_
                    have p400 : 0 ≤ (x5_1 : Int) := of_decide_eq_true (by (with_reducible assumption))
                    have q400 : x5_1 < (l0.length : Int) := of_decide_eq_true (by (with_reducible assumption))
                    obtain ⟨ad400, A400_3, c400_3, A400_4, c400_4, e400, hx400_0, hx400_1, hx400_2, hx400_3, hx400_4, hl400_3, hi400_3, hl400_4, hi400_4⟩ := at_T63 HR0.out x5_1 p400 q400
                    have hw400_4 := hx400_4
                    have hw400_3 := hx400_3
                    have hw400_2 := hx400_2
                    have hw400_1 := hx400_1
                    have hw400_0 := hx400_0
                    obtain rfl : ad395 = ad400 := (by injection e400)
                    replace hx400_0 := (HB.out.cell (World.block_lt_of_cell? w _ hx400_0)).trans hx400_0
                    replace hx400_1 := (HB.out.cell (World.block_lt_of_cell? w _ hx400_1)).trans hx400_1
                    replace hx400_2 := (HB.out.cell (World.block_lt_of_cell? w _ hx400_2)).trans hx400_2
                    replace hx400_3 := (HB.out.cell (World.block_lt_of_cell? w _ hx400_3)).trans hx400_3
                    replace hx400_4 := (HB.out.cell (World.block_lt_of_cell? w _ hx400_4)).trans hx400_4
                    have HR400_3 := Aside0.mk hi400_3
                    have HC400_3 := Aside0.mk hl400_3
                    clear hi400_3 hl400_3
                    have HR400_4 := Aside0.mk hi400_4
                    have HC400_4 := Aside0.mk hl400_4
                    clear hi400_4 hl400_4
                    replace p400 := eq_true p400
                    replace q400 := eq_true q400
                    have ea_ := Option.some.inj (hx395_3.symm.trans hx400_3)
                    injection ea_ with ea_ en_ ec_
                    subst ea_
                    subst ec_
                    clear en_
                    have ea_ := Option.some.inj (hx395_4.symm.trans hx400_4)
                    injection ea_ with ea_ en_ ec_
                    subst ea_
                    subst ec_
                    clear en_
                    have p401 : 0 ≤ (x5_1 : Int) := of_decide_eq_true (by (with_reducible assumption))
                    have q401 : x5_1 < (l1.length : Int) := of_decide_eq_true (by (with_reducible assumption))
                    obtain ⟨ad401, A401_3, c401_3, A401_4, c401_4, e401, hx401_0, hx401_1, hx401_2, hx401_3, hx401_4, hl401_3, hi401_3, hl401_4, hi401_4⟩ := at_T63 HR1.out x5_1 p401 q401
                    have hw401_4 := hx401_4
                    have hw401_3 := hx401_3
                    have hw401_2 := hx401_2
                    have hw401_1 := hx401_1
                    have hw401_0 := hx401_0
                    obtain rfl : ad396 = ad401 := (by injection e401)
                    replace hx401_0 := (HB.out.cell (World.block_lt_of_cell? w _ hx401_0)).trans hx401_0
                    replace hx401_1 := (HB.out.cell (World.block_lt_of_cell? w _ hx401_1)).trans hx401_1
                    replace hx401_2 := (HB.out.cell (World.block_lt_of_cell? w _ hx401_2)).trans hx401_2
                    replace hx401_3 := (HB.out.cell (World.block_lt_of_cell? w _ hx401_3)).trans hx401_3
                    replace hx401_4 := (HB.out.cell (World.block_lt_of_cell? w _ hx401_4)).trans hx401_4
                    have HR401_3 := Aside0.mk hi401_3
                    have HC401_3 := Aside0.mk hl401_3
                    clear hi401_3 hl401_3
                    have HR401_4 := Aside0.mk hi401_4
                    have HC401_4 := Aside0.mk hl401_4
                    clear hi401_4 hl401_4
                    replace p401 := eq_true p401
                    replace q401 := eq_true q401
                    have ea_ := Option.some.inj (hx396_3.symm.trans hx401_3)
                    injection ea_ with ea_ en_ ec_
                    subst ea_
                    subst ec_
                    clear en_
                    have ea_ := Option.some.inj (hx396_4.symm.trans hx401_4)
                    injection ea_ with ea_ en_ ec_
                    subst ea_
                    subst ec_
                    clear en_
                    refine start_ (n := 39) (S := fun w' => hc5_ w' (ad395.add ((x5_1).toNat * 5)) (.int .i64 ((rd_T63 l0 x5_1).f0.f0)) (.int .i64 ((rd_T63 l0 x5_1).f0.f1)) (.int .i64 ((rd_T63 l0 x5_1).f0.f2)) (.slice A395_3 ((rd_T63 l0 x5_1).f1).length c395_3) (.slice A395_4 ((rd_T63 l0 x5_1).f2).length c395_4) (hc5_ w' (ad396.add ((x5_1).toNat * 5)) (.int .i64 ((rd_T63 l1 x5_1).f0.f0)) (.int .i64 ((rd_T63 l1 x5_1).f0.f1)) (.int .i64 ((rd_T63 l1 x5_1).f0.f2)) (.slice A396_3 ((rd_T63 l1 x5_1).f1).length c396_3) (.slice A396_4 ((rd_T63 l1 x5_1).f2).length c396_4) (hc5_ w' (ad395.add ((x5_1).toNat * 5)) (.int .i64 ((rd_T63 l0 x5_1).f0.f0)) (.int .i64 ((rd_T63 l0 x5_1).f0.f1)) (.int .i64 ((rd_T63 l0 x5_1).f0.f2)) (.slice A395_3 ((rd_T63 l0 x5_1).f1).length c395_3) (.slice A395_4 ((rd_T63 l0 x5_1).f2).length c395_4) (hc5_ w' (ad396.add ((x5_1).toNat * 5)) (.int .i64 ((rd_T63 l1 x5_1).f0.f0)) (.int .i64 ((rd_T63 l1 x5_1).f0.f1)) (.int .i64 ((rd_T63 l1 x5_1).f0.f2)) (.slice A396_3 ((rd_T63 l1 x5_1).f1).length c396_3) (.slice A396_4 ((rd_T63 l1 x5_1).f2).length c396_4) (hc5_ w' (ad395.add ((x5_1).toNat * 5)) (.int .i64 ((rd_T63 l0 x5_1).f0.f0)) (.int .i64 ((rd_T63 l0 x5_1).f0.f1)) (.int .i64 ((rd_T63 l0 x5_1).f0.f2)) (.slice A395_3 ((rd_T63 l0 x5_1).f1).length c395_3) (.slice A395_4 ((rd_T63 l0 x5_1).f2).length c395_4) (he5_ w' (ad396.add ((x5_1).toNat * 5)) (.int .i64 ((rd_T63 l1 x5_1).f0.f0)) (.int .i64 ((rd_T63 l1 x5_1).f0.f1)) (.int .i64 ((rd_T63 l1 x5_1).f0.f2)) (.slice A396_3 ((rd_T63 l1 x5_1).f1).length c396_3) (.slice A396_4 ((rd_T63 l1 x5_1).f2).length c396_4))))))) (ds := []) #[false, false, false, false, false, false, false, false, false, false, false, false, false, false, false, false, false, false, false, false, false, false, false, false, false, false, false, false, false, false, false, false, false, false, false, false, false, false, false] (by kernel_rfl) rfl rfl ⟨((HB.out.cell (World.block_lt_of_cell? w _ hw395_0)).trans hw395_0), ((HB.out.cell (World.block_lt_of_cell? w _ hw395_1)).trans hw395_1), ((HB.out.cell (World.block_lt_of_cell? w _ hw395_2)).trans hw395_2), ((HB.out.cell (World.block_lt_of_cell? w _ hw395_3)).trans hw395_3), ((HB.out.cell (World.block_lt_of_cell? w _ hw395_4)).trans hw395_4), ((HB.out.cell (World.block_lt_of_cell? w _ hw396_0)).trans hw396_0), ((HB.out.cell (World.block_lt_of_cell? w _ hw396_1)).trans hw396_1), ((HB.out.cell (World.block_lt_of_cell? w _ hw396_2)).trans hw396_2), ((HB.out.cell (World.block_lt_of_cell? w _ hw396_3)).trans hw396_3), ((HB.out.cell (World.block_lt_of_cell? w _ hw396_4)).trans hw396_4), ((HB.out.cell (World.block_lt_of_cell? w _ hw397_0)).trans hw397_0), ((HB.out.cell (World.block_lt_of_cell? w _ hw397_1)).trans hw397_1), ((HB.out.cell (World.block_lt_of_cell? w _ hw397_2)).trans hw397_2), ((HB.out.cell (World.block_lt_of_cell? w _ hw397_3)).trans hw397_3), ((HB.out.cell (World.block_lt_of_cell? w _ hw397_4)).trans hw397_4), ((HB.out.cell (World.block_lt_of_cell? w _ hw398_0)).trans hw398_0), ((HB.out.cell (World.block_lt_of_cell? w _ hw398_1)).trans hw398_1), ((HB.out.cell (World.block_lt_of_cell? w _ hw398_2)).trans hw398_2), ((HB.out.cell (World.block_lt_of_cell? w _ hw398_3)).trans hw398_3), ((HB.out.cell (World.block_lt_of_cell? w _ hw398_4)).trans hw398_4), ((HB.out.cell (World.block_lt_of_cell? w _ hw400_0)).trans hw400_0), ((HB.out.cell (World.block_lt_of_cell? w _ hw400_1)).trans hw400_1), ((HB.out.cell (World.block_lt_of_cell? w _ hw400_2)).trans hw400_2), ((HB.out.cell (World.block_lt_of_cell? w _ hw400_3)).trans hw400_3), ((HB.out.cell (World.block_lt_of_cell? w _ hw400_4)).trans hw400_4), ((HB.out.cell (World.block_lt_of_cell? w _ hw401_0)).trans hw401_0), ((HB.out.cell (World.block_lt_of_cell? w _ hw401_1)).trans hw401_1), ((HB.out.cell (World.block_lt_of_cell? w _ hw401_2)).trans hw401_2), ((HB.out.cell (World.block_lt_of_cell? w _ hw401_3)).trans hw401_3), ((HB.out.cell (World.block_lt_of_cell? w _ hw401_4)).trans hw401_4)⟩ (fun hHeld => ?_); refine with_tabW remontoirlaw18_Same.tab6 remontoirlaw18_Same.bits6 (fun HT_ HW_ => ?_)
                    generalize wr.drew = w13 at HB HR395_3 HR395_4 HR396_3 HR396_4 HR397_3 HR397_4 HR398_3 HR398_4 HR400_3 HR400_4 HR401_3 HR401_4 hx395_0 hx395_1 hx395_2 hx395_3 hx395_4 hx396_0 hx396_1 hx396_2 hx396_3 hx396_4 hx397_0 hx397_1 hx397_2 hx397_3 hx397_4 hx398_0 hx398_1 hx398_2 hx398_3 hx398_4 hx400_0 hx400_1 hx400_2 hx400_3 hx400_4 hx401_0 hx401_1 hx401_2 hx401_3 hx401_4 hHeld ⊢
                    refine pa_ 0 17 (bm 39 0x1) HT_ (h := ?_)
                    refine pa_ 1 18 (bm 39 0x3) HT_ (h := ?_)
                    refine pa_ 2 19 (bm 39 0x7) HT_ (h := ?_)
                    refine pa_ 3 20 (bm 39 0xf) HT_ (h := ?_)
                    refine pa_ 5 22 (bm 39 0x2f) HT_ (h := ?_)
                    refine pa_ 6 23 (bm 39 0x6f) HT_ (h := ?_)
                    refine pa_ 7 24 (bm 39 0xef) HT_ (h := ?_)
                    refine pa_ 8 25 (bm 39 0x1ef) HT_ (h := ?_)
                    refine take_ (i := 4) (N := some 21) (v := ?_) (a' := ?_) (bm 39 0x1ff) rfl rfl (take_ofW HT_.out HW_.out (by kernel_rfl)) (fun _ _ _ h => h) (Or.inl ⟨by rfl, ?_⟩) hHeld ?_ ?_
                    rotate_left
                    · rintro w' ⟨s0, s1, s2, s3, s4, s5, s6, s7, s8, s9, s10, s11, s12, s13, s14, s15, s16, s17, s18, s19, s20, s21, s22, s23, s24, s25, s26, s27, s28, s29⟩
                      go_simp
                      with_reducible rfl
                    rotate_left
                    · simp only [Act.put, List.setIfInBounds_toArray, List.set_cons_zero, List.set_cons_succ, i64_w, i32_w]
                      rfl
                    refine take_ (i := 9) (N := some 26) (v := ?_) (a' := ?_) (bm 39 0x3ff) rfl rfl (take_ofW HT_.out HW_.out (by kernel_rfl)) (fun _ _ _ h => h) (Or.inl ⟨by rfl, ?_⟩) hHeld ?_ ?_
                    rotate_left
                    · rintro w' ⟨s0, s1, s2, s3, s4, s5, s6, s7, s8, s9, s10, s11, s12, s13, s14, s15, s16, s17, s18, s19, s20, s21, s22, s23, s24, s25, s26, s27, s28, s29⟩
                      go_simp
                      with_reducible rfl
                    rotate_left
                    · simp only [Act.put, List.setIfInBounds_toArray, List.set_cons_zero, List.set_cons_succ, i64_w, i32_w]
                      rfl
                    refine pa_ 10 27 (bm 39 0x7ff) HT_ (h := ?_)
                    refine pa_ 11 28 (bm 39 0xfff) HT_ (h := ?_)
                    refine pa_ 12 29 (bm 39 0x1fff) HT_ (h := ?_)
                    refine pa_ 13 30 (bm 39 0x3fff) HT_ (h := ?_)
                    refine pa_ 14 31 (bm 39 0x7fff) HT_ (h := ?_)
                    refine pa_ 15 32 (bm 39 0xffff) HT_ (h := ?_)
                    refine pa_ 17 34 (bm 39 0x2ffff) HT_ (h := ?_)
                    refine pa_ 18 35 (bm 39 0x6ffff) HT_ (h := ?_)
                    refine pa_ 19 36 (bm 39 0xeffff) HT_ (h := ?_)
                    refine pa_ 20 37 (bm 39 0x1effff) HT_ (h := ?_)
                    refine take_ (i := 16) (N := some 33) (v := ?_) (a' := ?_) (bm 39 0x1fffff) rfl rfl (take_ofW HT_.out HW_.out (by kernel_rfl)) (fun _ _ _ h => h) (Or.inl ⟨by rfl, ?_⟩) hHeld ?_ ?_
                    rotate_left
                    · rintro w' ⟨s0, s1, s2, s3, s4, s5, s6, s7, s8, s9, s10, s11, s12, s13, s14, s15, s16, s17, s18, s19, s20, s21, s22, s23, s24, s25, s26, s27, s28, s29⟩
                      go_simp
                      with_reducible rfl
                    rotate_left
                    · simp only [Act.put, List.setIfInBounds_toArray, List.set_cons_zero, List.set_cons_succ, i64_w, i32_w]
                      rfl
                    refine take_ (i := 21) (N := some 38) (v := ?_) (a' := ?_) (bm 39 0x3fffff) rfl rfl (take_ofW HT_.out HW_.out (by kernel_rfl)) (fun _ _ _ h => h) (Or.inl ⟨by rfl, ?_⟩) hHeld ?_ ?_
                    rotate_left
                    · rintro w' ⟨s0, s1, s2, s3, s4, s5, s6, s7, s8, s9, s10, s11, s12, s13, s14, s15, s16, s17, s18, s19, s20, s21, s22, s23, s24, s25, s26, s27, s28, s29⟩
                      go_simp
                      with_reducible rfl
                    rotate_left
                    · simp only [Act.put, List.setIfInBounds_toArray, List.set_cons_zero, List.set_cons_succ, i64_w, i32_w]
                      rfl
                    refine one_ (i := 22) (N := some 39) (bm 39 0x7fffff) rfl rfl (one_of HT_.out (by kernel_rfl)) (by decide) (fun K hK => ?_)
                    refine goes_ Try.func18 (by kernel_rfl) rfl #[.slice A395_3 ((rd_T63 l0 x5_1).f1).length c395_3, .slice A396_3 ((rd_T63 l1 x5_1).f1).length c396_3] (by rfl) rfl rfl (by (try simp only [List.map_toArray, List.map_cons, List.map_nil]); rfl) ?_
                    with_reducible refine (remontoirref03_SameList.calls k1 _ _ ((rd_T63 l0 x5_1).f1) _ _ ((rd_T63 l1 x5_1).f1) true _ ?side1 ?side2 ?side3 ?side4 A9.out).mono ?_
                    (case side1 => repeat ((exact (Kd.C_below HR397_3.out HB.out))))
                    (case side2 => exact HC397_3.out)
                    (case side3 => repeat ((exact (Kd.C_below HR398_3.out HB.out))))
                    (case side4 => exact HC398_3.out)
                    rintro e w' ⟨rfl, ⟨nd, rfl⟩⟩
                    refine ⟨_, rfl, ?_⟩
                    refine hK.out _ _ ⟨((HB.out.cell (World.block_lt_of_cell? w _ hw395_0)).trans hw395_0), ((HB.out.cell (World.block_lt_of_cell? w _ hw395_1)).trans hw395_1), ((HB.out.cell (World.block_lt_of_cell? w _ hw395_2)).trans hw395_2), ((HB.out.cell (World.block_lt_of_cell? w _ hw395_3)).trans hw395_3), ((HB.out.cell (World.block_lt_of_cell? w _ hw395_4)).trans hw395_4), ((HB.out.cell (World.block_lt_of_cell? w _ hw396_0)).trans hw396_0), ((HB.out.cell (World.block_lt_of_cell? w _ hw396_1)).trans hw396_1), ((HB.out.cell (World.block_lt_of_cell? w _ hw396_2)).trans hw396_2), ((HB.out.cell (World.block_lt_of_cell? w _ hw396_3)).trans hw396_3), ((HB.out.cell (World.block_lt_of_cell? w _ hw396_4)).trans hw396_4), ((HB.out.cell (World.block_lt_of_cell? w _ hw397_0)).trans hw397_0), ((HB.out.cell (World.block_lt_of_cell? w _ hw397_1)).trans hw397_1), ((HB.out.cell (World.block_lt_of_cell? w _ hw397_2)).trans hw397_2), ((HB.out.cell (World.block_lt_of_cell? w _ hw397_3)).trans hw397_3), ((HB.out.cell (World.block_lt_of_cell? w _ hw397_4)).trans hw397_4), ((HB.out.cell (World.block_lt_of_cell? w _ hw398_0)).trans hw398_0), ((HB.out.cell (World.block_lt_of_cell? w _ hw398_1)).trans hw398_1), ((HB.out.cell (World.block_lt_of_cell? w _ hw398_2)).trans hw398_2), ((HB.out.cell (World.block_lt_of_cell? w _ hw398_3)).trans hw398_3), ((HB.out.cell (World.block_lt_of_cell? w _ hw398_4)).trans hw398_4), ((HB.out.cell (World.block_lt_of_cell? w _ hw400_0)).trans hw400_0), ((HB.out.cell (World.block_lt_of_cell? w _ hw400_1)).trans hw400_1), ((HB.out.cell (World.block_lt_of_cell? w _ hw400_2)).trans hw400_2), ((HB.out.cell (World.block_lt_of_cell? w _ hw400_3)).trans hw400_3), ((HB.out.cell (World.block_lt_of_cell? w _ hw400_4)).trans hw400_4), ((HB.out.cell (World.block_lt_of_cell? w _ hw401_0)).trans hw401_0), ((HB.out.cell (World.block_lt_of_cell? w _ hw401_1)).trans hw401_1), ((HB.out.cell (World.block_lt_of_cell? w _ hw401_2)).trans hw401_2), ((HB.out.cell (World.block_lt_of_cell? w _ hw401_3)).trans hw401_3), ((HB.out.cell (World.block_lt_of_cell? w _ hw401_4)).trans hw401_4)⟩ (fun hHeld => ?_)
                    clear hK K
                    refine nm_ 39 (h := ?_)
                    refine pa_ 23 40 (bm 39 0xffffff) HT_ (h := ?_)
                    refine pa_ 24 41 (bm 39 0x1ffffff) HT_ (h := ?_)
                    refine pa_ 25 42 (bm 39 0x3ffffff) HT_ (h := ?_)
                    refine pa_ 26 43 (bm 39 0x7ffffff) HT_ (h := ?_)
                    refine pa_ 27 44 (bm 39 0xfffffff) HT_ (h := ?_)
                    refine pa_ 28 45 (bm 39 0x1fffffff) HT_ (h := ?_)
                    refine pa_ 29 46 (bm 39 0x3fffffff) HT_ (h := ?_)
                    refine pa_ 31 48 (bm 39 0xbfffffff) HT_ (h := ?_)
                    refine pa_ 32 49 (bm 39 0x1bfffffff) HT_ (h := ?_)
                    refine pa_ 33 50 (bm 39 0x3bfffffff) HT_ (h := ?_)
                    refine pa_ 34 51 (bm 39 0x7bfffffff) HT_ (h := ?_)
                    refine take_ (i := 30) (N := some 47) (v := ?_) (a' := ?_) (bm 39 0x7ffffffff) rfl rfl (take_ofW HT_.out HW_.out (by kernel_rfl)) (fun _ _ _ h => h) (Or.inl ⟨by rfl, ?_⟩) hHeld ?_ ?_
                    rotate_left
                    · rintro w' ⟨s0, s1, s2, s3, s4, s5, s6, s7, s8, s9, s10, s11, s12, s13, s14, s15, s16, s17, s18, s19, s20, s21, s22, s23, s24, s25, s26, s27, s28, s29⟩
                      go_simp
                      with_reducible rfl
                    rotate_left
                    · simp only [Act.put, List.setIfInBounds_toArray, List.set_cons_zero, List.set_cons_succ, i64_w, i32_w]
                      rfl
                    refine take_ (i := 35) (N := some 52) (v := ?_) (a' := ?_) (bm 39 0xfffffffff) rfl rfl (take_ofW HT_.out HW_.out (by kernel_rfl)) (fun _ _ _ h => h) (Or.inl ⟨by rfl, ?_⟩) hHeld ?_ ?_
                    rotate_left
                    · rintro w' ⟨s0, s1, s2, s3, s4, s5, s6, s7, s8, s9, s10, s11, s12, s13, s14, s15, s16, s17, s18, s19, s20, s21, s22, s23, s24, s25, s26, s27, s28, s29⟩
                      go_simp
                      with_reducible rfl
                    rotate_left
                    · simp only [Act.put, List.setIfInBounds_toArray, List.set_cons_zero, List.set_cons_succ, i64_w, i32_w]
                      rfl
                    refine one_ (i := 36) (N := some 53) (bm 39 0x1fffffffff) rfl rfl (one_of HT_.out (by kernel_rfl)) (by decide) (fun K hK => ?_)
                    refine goes_ Try.func18 (by kernel_rfl) rfl #[.slice A395_4 ((rd_T63 l0 x5_1).f2).length c395_4, .slice A396_4 ((rd_T63 l1 x5_1).f2).length c396_4] (by rfl) rfl rfl (by (try simp only [List.map_toArray, List.map_cons, List.map_nil]); rfl) ?_
                    with_reducible refine (remontoirref03_SameList.calls k1 _ _ ((rd_T63 l0 x5_1).f2) _ _ ((rd_T63 l1 x5_1).f2) true _ ?side1 ?side2 ?side3 ?side4 A11.out).mono ?_
                    (case side1 => repeat ((exact (Kd.C_below HR400_4.out (by repeat ((with_reducible first | exact HB.out | apply pw_below_drewN)))))))
                    (case side2 => exact HC400_4.out)
                    (case side3 => repeat ((exact (Kd.C_below HR401_4.out (by repeat ((with_reducible first | exact HB.out | apply pw_below_drewN)))))))
                    (case side4 => exact HC401_4.out)
                    rintro e w' ⟨rfl, ⟨nd, rfl⟩⟩
                    refine ⟨_, rfl, ?_⟩
                    refine hK.out _ _ ⟨((HB.out.cell (World.block_lt_of_cell? w _ hw395_0)).trans hw395_0), ((HB.out.cell (World.block_lt_of_cell? w _ hw395_1)).trans hw395_1), ((HB.out.cell (World.block_lt_of_cell? w _ hw395_2)).trans hw395_2), ((HB.out.cell (World.block_lt_of_cell? w _ hw395_3)).trans hw395_3), ((HB.out.cell (World.block_lt_of_cell? w _ hw395_4)).trans hw395_4), ((HB.out.cell (World.block_lt_of_cell? w _ hw396_0)).trans hw396_0), ((HB.out.cell (World.block_lt_of_cell? w _ hw396_1)).trans hw396_1), ((HB.out.cell (World.block_lt_of_cell? w _ hw396_2)).trans hw396_2), ((HB.out.cell (World.block_lt_of_cell? w _ hw396_3)).trans hw396_3), ((HB.out.cell (World.block_lt_of_cell? w _ hw396_4)).trans hw396_4), ((HB.out.cell (World.block_lt_of_cell? w _ hw397_0)).trans hw397_0), ((HB.out.cell (World.block_lt_of_cell? w _ hw397_1)).trans hw397_1), ((HB.out.cell (World.block_lt_of_cell? w _ hw397_2)).trans hw397_2), ((HB.out.cell (World.block_lt_of_cell? w _ hw397_3)).trans hw397_3), ((HB.out.cell (World.block_lt_of_cell? w _ hw397_4)).trans hw397_4), ((HB.out.cell (World.block_lt_of_cell? w _ hw398_0)).trans hw398_0), ((HB.out.cell (World.block_lt_of_cell? w _ hw398_1)).trans hw398_1), ((HB.out.cell (World.block_lt_of_cell? w _ hw398_2)).trans hw398_2), ((HB.out.cell (World.block_lt_of_cell? w _ hw398_3)).trans hw398_3), ((HB.out.cell (World.block_lt_of_cell? w _ hw398_4)).trans hw398_4), ((HB.out.cell (World.block_lt_of_cell? w _ hw400_0)).trans hw400_0), ((HB.out.cell (World.block_lt_of_cell? w _ hw400_1)).trans hw400_1), ((HB.out.cell (World.block_lt_of_cell? w _ hw400_2)).trans hw400_2), ((HB.out.cell (World.block_lt_of_cell? w _ hw400_3)).trans hw400_3), ((HB.out.cell (World.block_lt_of_cell? w _ hw400_4)).trans hw400_4), ((HB.out.cell (World.block_lt_of_cell? w _ hw401_0)).trans hw401_0), ((HB.out.cell (World.block_lt_of_cell? w _ hw401_1)).trans hw401_1), ((HB.out.cell (World.block_lt_of_cell? w _ hw401_2)).trans hw401_2), ((HB.out.cell (World.block_lt_of_cell? w _ hw401_3)).trans hw401_3), ((HB.out.cell (World.block_lt_of_cell? w _ hw401_4)).trans hw401_4)⟩ (fun hHeld => ?_)
                    clear hK K
                    refine nm_ 53 (h := ?_)
                    refine pa_ 37 54 (bm 39 0x3fffffffff) HT_ (h := ?_)
                    refine pa_ 38 55 (bm 39 0x7fffffffff) HT_ (h := ?_)
                    refine done_ (done_of HT_.out (by kernel_rfl)) ?_
                    try go_wp2
                    go_roundg k1
                    case measure => have := HK1.out; omega
                    case rel => exact ⟨(wrap64 (x5_1 + 1)), (by rfl), H', ⟨by have := HK1.out; omega⟩, ⟨by repeat ((with_reducible first | exact HB.out | apply pw_below_drewN))⟩⟩
                  · replace c12 := Bool.eq_false_iff.mpr c12
                    subst c12
                    have H1 : (some false) = some r := by rw [if_neg (show ¬ (false = true) by decide)] at H; exact H
                    clear H
                    have H := H1
                    clear H1
                    obtain rfl := Option.some.inj H
                    try go_wp2
                    have n0_ := Aside0.mk (below_drew1 HB.out)
                    clear HB; have HB := n0_; clear n0_
                    have p395 : 0 ≤ (x5_1 : Int) := of_decide_eq_true (by (with_reducible assumption))
                    have q395 : x5_1 < (l0.length : Int) := of_decide_eq_true (by (with_reducible assumption))
                    obtain ⟨ad395, A395_3, c395_3, A395_4, c395_4, e395, hx395_0, hx395_1, hx395_2, hx395_3, hx395_4, hl395_3, hi395_3, hl395_4, hi395_4⟩ := at_T63 HR0.out x5_1 p395 q395
                    have hw395_4 := hx395_4
                    have hw395_3 := hx395_3
                    have hw395_2 := hx395_2
                    have hw395_1 := hx395_1
                    have hw395_0 := hx395_0
                    cases e395
                    replace hx395_0 := (HB.out.cell (World.block_lt_of_cell? w _ hx395_0)).trans hx395_0
                    replace hx395_1 := (HB.out.cell (World.block_lt_of_cell? w _ hx395_1)).trans hx395_1
                    replace hx395_2 := (HB.out.cell (World.block_lt_of_cell? w _ hx395_2)).trans hx395_2
                    replace hx395_3 := (HB.out.cell (World.block_lt_of_cell? w _ hx395_3)).trans hx395_3
                    replace hx395_4 := (HB.out.cell (World.block_lt_of_cell? w _ hx395_4)).trans hx395_4
                    have HR395_3 := Aside0.mk hi395_3
                    have HC395_3 := Aside0.mk hl395_3
                    clear hi395_3 hl395_3
                    have HR395_4 := Aside0.mk hi395_4
                    have HC395_4 := Aside0.mk hl395_4
                    clear hi395_4 hl395_4
                    replace p395 := eq_true p395
                    replace q395 := eq_true q395
                    have p396 : 0 ≤ (x5_1 : Int) := of_decide_eq_true (by (with_reducible assumption))
                    have q396 : x5_1 < (l1.length : Int) := of_decide_eq_true (by (with_reducible assumption))
                    obtain ⟨ad396, A396_3, c396_3, A396_4, c396_4, e396, hx396_0, hx396_1, hx396_2, hx396_3, hx396_4, hl396_3, hi396_3, hl396_4, hi396_4⟩ := at_T63 HR1.out x5_1 p396 q396
                    have hw396_4 := hx396_4
                    have hw396_3 := hx396_3
                    have hw396_2 := hx396_2
                    have hw396_1 := hx396_1
                    have hw396_0 := hx396_0
                    cases e396
                    replace hx396_0 := (HB.out.cell (World.block_lt_of_cell? w _ hx396_0)).trans hx396_0
                    replace hx396_1 := (HB.out.cell (World.block_lt_of_cell? w _ hx396_1)).trans hx396_1
                    replace hx396_2 := (HB.out.cell (World.block_lt_of_cell? w _ hx396_2)).trans hx396_2
                    replace hx396_3 := (HB.out.cell (World.block_lt_of_cell? w _ hx396_3)).trans hx396_3
                    replace hx396_4 := (HB.out.cell (World.block_lt_of_cell? w _ hx396_4)).trans hx396_4
                    have HR396_3 := Aside0.mk hi396_3
                    have HC396_3 := Aside0.mk hl396_3
                    clear hi396_3 hl396_3
                    have HR396_4 := Aside0.mk hi396_4
                    have HC396_4 := Aside0.mk hl396_4
                    clear hi396_4 hl396_4
                    replace p396 := eq_true p396
                    replace q396 := eq_true q396
                    have p397 : 0 ≤ (x5_1 : Int) := of_decide_eq_true (by (with_reducible assumption))
                    have q397 : x5_1 < (l0.length : Int) := of_decide_eq_true (by (with_reducible assumption))
                    obtain ⟨ad397, A397_3, c397_3, A397_4, c397_4, e397, hx397_0, hx397_1, hx397_2, hx397_3, hx397_4, hl397_3, hi397_3, hl397_4, hi397_4⟩ := at_T63 HR0.out x5_1 p397 q397
                    have hw397_4 := hx397_4
                    have hw397_3 := hx397_3
                    have hw397_2 := hx397_2
                    have hw397_1 := hx397_1
                    have hw397_0 := hx397_0
                    obtain rfl : ad395 = ad397 := (by injection e397)
                    replace hx397_0 := (HB.out.cell (World.block_lt_of_cell? w _ hx397_0)).trans hx397_0
                    replace hx397_1 := (HB.out.cell (World.block_lt_of_cell? w _ hx397_1)).trans hx397_1
                    replace hx397_2 := (HB.out.cell (World.block_lt_of_cell? w _ hx397_2)).trans hx397_2
                    replace hx397_3 := (HB.out.cell (World.block_lt_of_cell? w _ hx397_3)).trans hx397_3
                    replace hx397_4 := (HB.out.cell (World.block_lt_of_cell? w _ hx397_4)).trans hx397_4
                    have HR397_3 := Aside0.mk hi397_3
                    have HC397_3 := Aside0.mk hl397_3
                    clear hi397_3 hl397_3
                    have HR397_4 := Aside0.mk hi397_4
                    have HC397_4 := Aside0.mk hl397_4
                    clear hi397_4 hl397_4
                    replace p397 := eq_true p397
                    replace q397 := eq_true q397
                    have ea_ := Option.some.inj (hx395_3.symm.trans hx397_3)
                    injection ea_ with ea_ en_ ec_
                    subst ea_
                    subst ec_
                    clear en_
                    have ea_ := Option.some.inj (hx395_4.symm.trans hx397_4)
                    injection ea_ with ea_ en_ ec_
                    subst ea_
                    subst ec_
                    clear en_
                    have p398 : 0 ≤ (x5_1 : Int) := of_decide_eq_true (by (with_reducible assumption))
                    have q398 : x5_1 < (l1.length : Int) := of_decide_eq_true (by (with_reducible assumption))
                    obtain ⟨ad398, A398_3, c398_3, A398_4, c398_4, e398, hx398_0, hx398_1, hx398_2, hx398_3, hx398_4, hl398_3, hi398_3, hl398_4, hi398_4⟩ := at_T63 HR1.out x5_1 p398 q398
                    have hw398_4 := hx398_4
                    have hw398_3 := hx398_3
                    have hw398_2 := hx398_2
                    have hw398_1 := hx398_1
                    have hw398_0 := hx398_0
                    obtain rfl : ad396 = ad398 := (by injection e398)
                    replace hx398_0 := (HB.out.cell (World.block_lt_of_cell? w _ hx398_0)).trans hx398_0
                    replace hx398_1 := (HB.out.cell (World.block_lt_of_cell? w _ hx398_1)).trans hx398_1
                    replace hx398_2 := (HB.out.cell (World.block_lt_of_cell? w _ hx398_2)).trans hx398_2
                    replace hx398_3 := (HB.out.cell (World.block_lt_of_cell? w _ hx398_3)).trans hx398_3
                    replace hx398_4 := (HB.out.cell (World.block_lt_of_cell? w _ hx398_4)).trans hx398_4
                    have HR398_3 := Aside0.mk hi398_3
                    have HC398_3 := Aside0.mk hl398_3
                    clear hi398_3 hl398_3
                    have HR398_4 := Aside0.mk hi398_4
                    have HC398_4 := Aside0.mk hl398_4
                    clear hi398_4 hl398_4
                    replace p398 := eq_true p398
                    replace q398 := eq_true q398
                    have ea_ := Option.some.inj (hx396_3.symm.trans hx398_3)
                    injection ea_ with ea_ en_ ec_
                    subst ea_
                    subst ec_
                    clear en_
                    have ea_ := Option.some.inj (hx396_4.symm.trans hx398_4)
                    injection ea_ with ea_ en_ ec_
                    subst ea_
                    subst ec_
                    clear en_
                    have p400 : 0 ≤ (x5_1 : Int) := of_decide_eq_true (by (with_reducible assumption))
                    have q400 : x5_1 < (l0.length : Int) := of_decide_eq_true (by (with_reducible assumption))
                    obtain ⟨ad400, A400_3, c400_3, A400_4, c400_4, e400, hx400_0, hx400_1, hx400_2, hx400_3, hx400_4, hl400_3, hi400_3, hl400_4, hi400_4⟩ := at_T63 HR0.out x5_1 p400 q400
                    have hw400_4 := hx400_4
                    have hw400_3 := hx400_3
                    have hw400_2 := hx400_2
                    have hw400_1 := hx400_1
                    have hw400_0 := hx400_0
                    obtain rfl : ad395 = ad400 := (by injection e400)
                    replace hx400_0 := (HB.out.cell (World.block_lt_of_cell? w _ hx400_0)).trans hx400_0
                    replace hx400_1 := (HB.out.cell (World.block_lt_of_cell? w _ hx400_1)).trans hx400_1
                    replace hx400_2 := (HB.out.cell (World.block_lt_of_cell? w _ hx400_2)).trans hx400_2
                    replace hx400_3 := (HB.out.cell (World.block_lt_of_cell? w _ hx400_3)).trans hx400_3
                    replace hx400_4 := (HB.out.cell (World.block_lt_of_cell? w _ hx400_4)).trans hx400_4
                    have HR400_3 := Aside0.mk hi400_3
                    have HC400_3 := Aside0.mk hl400_3
                    clear hi400_3 hl400_3
                    have HR400_4 := Aside0.mk hi400_4
                    have HC400_4 := Aside0.mk hl400_4
                    clear hi400_4 hl400_4
                    replace p400 := eq_true p400
                    replace q400 := eq_true q400
                    have ea_ := Option.some.inj (hx395_3.symm.trans hx400_3)
                    injection ea_ with ea_ en_ ec_
                    subst ea_
                    subst ec_
                    clear en_
                    have ea_ := Option.some.inj (hx395_4.symm.trans hx400_4)
                    injection ea_ with ea_ en_ ec_
                    subst ea_
                    subst ec_
                    clear en_
                    have p401 : 0 ≤ (x5_1 : Int) := of_decide_eq_true (by (with_reducible assumption))
                    have q401 : x5_1 < (l1.length : Int) := of_decide_eq_true (by (with_reducible assumption))
                    obtain ⟨ad401, A401_3, c401_3, A401_4, c401_4, e401, hx401_0, hx401_1, hx401_2, hx401_3, hx401_4, hl401_3, hi401_3, hl401_4, hi401_4⟩ := at_T63 HR1.out x5_1 p401 q401
                    have hw401_4 := hx401_4
                    have hw401_3 := hx401_3
                    have hw401_2 := hx401_2
                    have hw401_1 := hx401_1
                    have hw401_0 := hx401_0
                    obtain rfl : ad396 = ad401 := (by injection e401)
                    replace hx401_0 := (HB.out.cell (World.block_lt_of_cell? w _ hx401_0)).trans hx401_0
                    replace hx401_1 := (HB.out.cell (World.block_lt_of_cell? w _ hx401_1)).trans hx401_1
                    replace hx401_2 := (HB.out.cell (World.block_lt_of_cell? w _ hx401_2)).trans hx401_2
                    replace hx401_3 := (HB.out.cell (World.block_lt_of_cell? w _ hx401_3)).trans hx401_3
                    replace hx401_4 := (HB.out.cell (World.block_lt_of_cell? w _ hx401_4)).trans hx401_4
                    have HR401_3 := Aside0.mk hi401_3
                    have HC401_3 := Aside0.mk hl401_3
                    clear hi401_3 hl401_3
                    have HR401_4 := Aside0.mk hi401_4
                    have HC401_4 := Aside0.mk hl401_4
                    clear hi401_4 hl401_4
                    replace p401 := eq_true p401
                    replace q401 := eq_true q401
                    have ea_ := Option.some.inj (hx396_3.symm.trans hx401_3)
                    injection ea_ with ea_ en_ ec_
                    subst ea_
                    subst ec_
                    clear en_
                    have ea_ := Option.some.inj (hx396_4.symm.trans hx401_4)
                    injection ea_ with ea_ en_ ec_
                    subst ea_
                    subst ec_
                    clear en_
                    refine start_ (n := 39) (S := fun w' => hc5_ w' (ad395.add ((x5_1).toNat * 5)) (.int .i64 ((rd_T63 l0 x5_1).f0.f0)) (.int .i64 ((rd_T63 l0 x5_1).f0.f1)) (.int .i64 ((rd_T63 l0 x5_1).f0.f2)) (.slice A395_3 ((rd_T63 l0 x5_1).f1).length c395_3) (.slice A395_4 ((rd_T63 l0 x5_1).f2).length c395_4) (hc5_ w' (ad396.add ((x5_1).toNat * 5)) (.int .i64 ((rd_T63 l1 x5_1).f0.f0)) (.int .i64 ((rd_T63 l1 x5_1).f0.f1)) (.int .i64 ((rd_T63 l1 x5_1).f0.f2)) (.slice A396_3 ((rd_T63 l1 x5_1).f1).length c396_3) (.slice A396_4 ((rd_T63 l1 x5_1).f2).length c396_4) (hc5_ w' (ad395.add ((x5_1).toNat * 5)) (.int .i64 ((rd_T63 l0 x5_1).f0.f0)) (.int .i64 ((rd_T63 l0 x5_1).f0.f1)) (.int .i64 ((rd_T63 l0 x5_1).f0.f2)) (.slice A395_3 ((rd_T63 l0 x5_1).f1).length c395_3) (.slice A395_4 ((rd_T63 l0 x5_1).f2).length c395_4) (hc5_ w' (ad396.add ((x5_1).toNat * 5)) (.int .i64 ((rd_T63 l1 x5_1).f0.f0)) (.int .i64 ((rd_T63 l1 x5_1).f0.f1)) (.int .i64 ((rd_T63 l1 x5_1).f0.f2)) (.slice A396_3 ((rd_T63 l1 x5_1).f1).length c396_3) (.slice A396_4 ((rd_T63 l1 x5_1).f2).length c396_4) (hc5_ w' (ad395.add ((x5_1).toNat * 5)) (.int .i64 ((rd_T63 l0 x5_1).f0.f0)) (.int .i64 ((rd_T63 l0 x5_1).f0.f1)) (.int .i64 ((rd_T63 l0 x5_1).f0.f2)) (.slice A395_3 ((rd_T63 l0 x5_1).f1).length c395_3) (.slice A395_4 ((rd_T63 l0 x5_1).f2).length c395_4) (he5_ w' (ad396.add ((x5_1).toNat * 5)) (.int .i64 ((rd_T63 l1 x5_1).f0.f0)) (.int .i64 ((rd_T63 l1 x5_1).f0.f1)) (.int .i64 ((rd_T63 l1 x5_1).f0.f2)) (.slice A396_3 ((rd_T63 l1 x5_1).f1).length c396_3) (.slice A396_4 ((rd_T63 l1 x5_1).f2).length c396_4))))))) (ds := []) #[false, false, false, false, false, false, false, false, false, false, false, false, false, false, false, false, false, false, false, false, false, false, false, false, false, false, false, false, false, false, false, false, false, false, false, false, false, false, false] (by kernel_rfl) rfl rfl ⟨((HB.out.cell (World.block_lt_of_cell? w _ hw395_0)).trans hw395_0), ((HB.out.cell (World.block_lt_of_cell? w _ hw395_1)).trans hw395_1), ((HB.out.cell (World.block_lt_of_cell? w _ hw395_2)).trans hw395_2), ((HB.out.cell (World.block_lt_of_cell? w _ hw395_3)).trans hw395_3), ((HB.out.cell (World.block_lt_of_cell? w _ hw395_4)).trans hw395_4), ((HB.out.cell (World.block_lt_of_cell? w _ hw396_0)).trans hw396_0), ((HB.out.cell (World.block_lt_of_cell? w _ hw396_1)).trans hw396_1), ((HB.out.cell (World.block_lt_of_cell? w _ hw396_2)).trans hw396_2), ((HB.out.cell (World.block_lt_of_cell? w _ hw396_3)).trans hw396_3), ((HB.out.cell (World.block_lt_of_cell? w _ hw396_4)).trans hw396_4), ((HB.out.cell (World.block_lt_of_cell? w _ hw397_0)).trans hw397_0), ((HB.out.cell (World.block_lt_of_cell? w _ hw397_1)).trans hw397_1), ((HB.out.cell (World.block_lt_of_cell? w _ hw397_2)).trans hw397_2), ((HB.out.cell (World.block_lt_of_cell? w _ hw397_3)).trans hw397_3), ((HB.out.cell (World.block_lt_of_cell? w _ hw397_4)).trans hw397_4), ((HB.out.cell (World.block_lt_of_cell? w _ hw398_0)).trans hw398_0), ((HB.out.cell (World.block_lt_of_cell? w _ hw398_1)).trans hw398_1), ((HB.out.cell (World.block_lt_of_cell? w _ hw398_2)).trans hw398_2), ((HB.out.cell (World.block_lt_of_cell? w _ hw398_3)).trans hw398_3), ((HB.out.cell (World.block_lt_of_cell? w _ hw398_4)).trans hw398_4), ((HB.out.cell (World.block_lt_of_cell? w _ hw400_0)).trans hw400_0), ((HB.out.cell (World.block_lt_of_cell? w _ hw400_1)).trans hw400_1), ((HB.out.cell (World.block_lt_of_cell? w _ hw400_2)).trans hw400_2), ((HB.out.cell (World.block_lt_of_cell? w _ hw400_3)).trans hw400_3), ((HB.out.cell (World.block_lt_of_cell? w _ hw400_4)).trans hw400_4), ((HB.out.cell (World.block_lt_of_cell? w _ hw401_0)).trans hw401_0), ((HB.out.cell (World.block_lt_of_cell? w _ hw401_1)).trans hw401_1), ((HB.out.cell (World.block_lt_of_cell? w _ hw401_2)).trans hw401_2), ((HB.out.cell (World.block_lt_of_cell? w _ hw401_3)).trans hw401_3), ((HB.out.cell (World.block_lt_of_cell? w _ hw401_4)).trans hw401_4)⟩ (fun hHeld => ?_); refine with_tabW remontoirlaw18_Same.tab6 remontoirlaw18_Same.bits6 (fun HT_ HW_ => ?_)
                    generalize wr.drew = w14 at HB HR395_3 HR395_4 HR396_3 HR396_4 HR397_3 HR397_4 HR398_3 HR398_4 HR400_3 HR400_4 HR401_3 HR401_4 hx395_0 hx395_1 hx395_2 hx395_3 hx395_4 hx396_0 hx396_1 hx396_2 hx396_3 hx396_4 hx397_0 hx397_1 hx397_2 hx397_3 hx397_4 hx398_0 hx398_1 hx398_2 hx398_3 hx398_4 hx400_0 hx400_1 hx400_2 hx400_3 hx400_4 hx401_0 hx401_1 hx401_2 hx401_3 hx401_4 hHeld ⊢
                    refine pa_ 0 17 (bm 39 0x1) HT_ (h := ?_)
                    refine pa_ 1 18 (bm 39 0x3) HT_ (h := ?_)
                    refine pa_ 2 19 (bm 39 0x7) HT_ (h := ?_)
                    refine pa_ 3 20 (bm 39 0xf) HT_ (h := ?_)
                    refine pa_ 5 22 (bm 39 0x2f) HT_ (h := ?_)
                    refine pa_ 6 23 (bm 39 0x6f) HT_ (h := ?_)
                    refine pa_ 7 24 (bm 39 0xef) HT_ (h := ?_)
                    refine pa_ 8 25 (bm 39 0x1ef) HT_ (h := ?_)
                    refine take_ (i := 4) (N := some 21) (v := ?_) (a' := ?_) (bm 39 0x1ff) rfl rfl (take_ofW HT_.out HW_.out (by kernel_rfl)) (fun _ _ _ h => h) (Or.inl ⟨by rfl, ?_⟩) hHeld ?_ ?_
                    rotate_left
                    · rintro w' ⟨s0, s1, s2, s3, s4, s5, s6, s7, s8, s9, s10, s11, s12, s13, s14, s15, s16, s17, s18, s19, s20, s21, s22, s23, s24, s25, s26, s27, s28, s29⟩
                      go_simp
                      with_reducible rfl
                    rotate_left
                    · simp only [Act.put, List.setIfInBounds_toArray, List.set_cons_zero, List.set_cons_succ, i64_w, i32_w]
                      rfl
                    refine take_ (i := 9) (N := some 26) (v := ?_) (a' := ?_) (bm 39 0x3ff) rfl rfl (take_ofW HT_.out HW_.out (by kernel_rfl)) (fun _ _ _ h => h) (Or.inl ⟨by rfl, ?_⟩) hHeld ?_ ?_
                    rotate_left
                    · rintro w' ⟨s0, s1, s2, s3, s4, s5, s6, s7, s8, s9, s10, s11, s12, s13, s14, s15, s16, s17, s18, s19, s20, s21, s22, s23, s24, s25, s26, s27, s28, s29⟩
                      go_simp
                      with_reducible rfl
                    rotate_left
                    · simp only [Act.put, List.setIfInBounds_toArray, List.set_cons_zero, List.set_cons_succ, i64_w, i32_w]
                      rfl
                    refine pa_ 10 27 (bm 39 0x7ff) HT_ (h := ?_)
                    refine pa_ 11 28 (bm 39 0xfff) HT_ (h := ?_)
                    refine pa_ 12 29 (bm 39 0x1fff) HT_ (h := ?_)
                    refine pa_ 13 30 (bm 39 0x3fff) HT_ (h := ?_)
                    refine pa_ 14 31 (bm 39 0x7fff) HT_ (h := ?_)
                    refine pa_ 15 32 (bm 39 0xffff) HT_ (h := ?_)
                    refine pa_ 17 34 (bm 39 0x2ffff) HT_ (h := ?_)
                    refine pa_ 18 35 (bm 39 0x6ffff) HT_ (h := ?_)
                    refine pa_ 19 36 (bm 39 0xeffff) HT_ (h := ?_)
                    refine pa_ 20 37 (bm 39 0x1effff) HT_ (h := ?_)
                    refine take_ (i := 16) (N := some 33) (v := ?_) (a' := ?_) (bm 39 0x1fffff) rfl rfl (take_ofW HT_.out HW_.out (by kernel_rfl)) (fun _ _ _ h => h) (Or.inl ⟨by rfl, ?_⟩) hHeld ?_ ?_
                    rotate_left
                    · rintro w' ⟨s0, s1, s2, s3, s4, s5, s6, s7, s8, s9, s10, s11, s12, s13, s14, s15, s16, s17, s18, s19, s20, s21, s22, s23, s24, s25, s26, s27, s28, s29⟩
                      go_simp
                      with_reducible rfl
                    rotate_left
                    · simp only [Act.put, List.setIfInBounds_toArray, List.set_cons_zero, List.set_cons_succ, i64_w, i32_w]
                      rfl
                    refine take_ (i := 21) (N := some 38) (v := ?_) (a' := ?_) (bm 39 0x3fffff) rfl rfl (take_ofW HT_.out HW_.out (by kernel_rfl)) (fun _ _ _ h => h) (Or.inl ⟨by rfl, ?_⟩) hHeld ?_ ?_
                    rotate_left
                    · rintro w' ⟨s0, s1, s2, s3, s4, s5, s6, s7, s8, s9, s10, s11, s12, s13, s14, s15, s16, s17, s18, s19, s20, s21, s22, s23, s24, s25, s26, s27, s28, s29⟩
                      go_simp
                      with_reducible rfl
                    rotate_left
                    · simp only [Act.put, List.setIfInBounds_toArray, List.set_cons_zero, List.set_cons_succ, i64_w, i32_w]
                      rfl
                    refine one_ (i := 22) (N := some 39) (bm 39 0x7fffff) rfl rfl (one_of HT_.out (by kernel_rfl)) (by decide) (fun K hK => ?_)
                    refine goes_ Try.func18 (by kernel_rfl) rfl #[.slice A395_3 ((rd_T63 l0 x5_1).f1).length c395_3, .slice A396_3 ((rd_T63 l1 x5_1).f1).length c396_3] (by rfl) rfl rfl (by (try simp only [List.map_toArray, List.map_cons, List.map_nil]); rfl) ?_
                    with_reducible refine (remontoirref03_SameList.calls k1 _ _ ((rd_T63 l0 x5_1).f1) _ _ ((rd_T63 l1 x5_1).f1) true _ ?side1 ?side2 ?side3 ?side4 A9.out).mono ?_
                    (case side1 => repeat ((exact (Kd.C_below HR397_3.out HB.out))))
                    (case side2 => exact HC397_3.out)
                    (case side3 => repeat ((exact (Kd.C_below HR398_3.out HB.out))))
                    (case side4 => exact HC398_3.out)
                    rintro e w' ⟨rfl, ⟨nd, rfl⟩⟩
                    refine ⟨_, rfl, ?_⟩
                    refine hK.out _ _ ⟨((HB.out.cell (World.block_lt_of_cell? w _ hw395_0)).trans hw395_0), ((HB.out.cell (World.block_lt_of_cell? w _ hw395_1)).trans hw395_1), ((HB.out.cell (World.block_lt_of_cell? w _ hw395_2)).trans hw395_2), ((HB.out.cell (World.block_lt_of_cell? w _ hw395_3)).trans hw395_3), ((HB.out.cell (World.block_lt_of_cell? w _ hw395_4)).trans hw395_4), ((HB.out.cell (World.block_lt_of_cell? w _ hw396_0)).trans hw396_0), ((HB.out.cell (World.block_lt_of_cell? w _ hw396_1)).trans hw396_1), ((HB.out.cell (World.block_lt_of_cell? w _ hw396_2)).trans hw396_2), ((HB.out.cell (World.block_lt_of_cell? w _ hw396_3)).trans hw396_3), ((HB.out.cell (World.block_lt_of_cell? w _ hw396_4)).trans hw396_4), ((HB.out.cell (World.block_lt_of_cell? w _ hw397_0)).trans hw397_0), ((HB.out.cell (World.block_lt_of_cell? w _ hw397_1)).trans hw397_1), ((HB.out.cell (World.block_lt_of_cell? w _ hw397_2)).trans hw397_2), ((HB.out.cell (World.block_lt_of_cell? w _ hw397_3)).trans hw397_3), ((HB.out.cell (World.block_lt_of_cell? w _ hw397_4)).trans hw397_4), ((HB.out.cell (World.block_lt_of_cell? w _ hw398_0)).trans hw398_0), ((HB.out.cell (World.block_lt_of_cell? w _ hw398_1)).trans hw398_1), ((HB.out.cell (World.block_lt_of_cell? w _ hw398_2)).trans hw398_2), ((HB.out.cell (World.block_lt_of_cell? w _ hw398_3)).trans hw398_3), ((HB.out.cell (World.block_lt_of_cell? w _ hw398_4)).trans hw398_4), ((HB.out.cell (World.block_lt_of_cell? w _ hw400_0)).trans hw400_0), ((HB.out.cell (World.block_lt_of_cell? w _ hw400_1)).trans hw400_1), ((HB.out.cell (World.block_lt_of_cell? w _ hw400_2)).trans hw400_2), ((HB.out.cell (World.block_lt_of_cell? w _ hw400_3)).trans hw400_3), ((HB.out.cell (World.block_lt_of_cell? w _ hw400_4)).trans hw400_4), ((HB.out.cell (World.block_lt_of_cell? w _ hw401_0)).trans hw401_0), ((HB.out.cell (World.block_lt_of_cell? w _ hw401_1)).trans hw401_1), ((HB.out.cell (World.block_lt_of_cell? w _ hw401_2)).trans hw401_2), ((HB.out.cell (World.block_lt_of_cell? w _ hw401_3)).trans hw401_3), ((HB.out.cell (World.block_lt_of_cell? w _ hw401_4)).trans hw401_4)⟩ (fun hHeld => ?_)
                    clear hK K
                    refine nm_ 39 (h := ?_)
                    refine pa_ 23 40 (bm 39 0xffffff) HT_ (h := ?_)
                    refine pa_ 24 41 (bm 39 0x1ffffff) HT_ (h := ?_)
                    refine pa_ 25 42 (bm 39 0x3ffffff) HT_ (h := ?_)
                    refine pa_ 26 43 (bm 39 0x7ffffff) HT_ (h := ?_)
                    refine pa_ 27 44 (bm 39 0xfffffff) HT_ (h := ?_)
                    refine pa_ 28 45 (bm 39 0x1fffffff) HT_ (h := ?_)
                    refine pa_ 29 46 (bm 39 0x3fffffff) HT_ (h := ?_)
                    refine pa_ 31 48 (bm 39 0xbfffffff) HT_ (h := ?_)
                    refine pa_ 32 49 (bm 39 0x1bfffffff) HT_ (h := ?_)
                    refine pa_ 33 50 (bm 39 0x3bfffffff) HT_ (h := ?_)
                    refine pa_ 34 51 (bm 39 0x7bfffffff) HT_ (h := ?_)
                    refine take_ (i := 30) (N := some 47) (v := ?_) (a' := ?_) (bm 39 0x7ffffffff) rfl rfl (take_ofW HT_.out HW_.out (by kernel_rfl)) (fun _ _ _ h => h) (Or.inl ⟨by rfl, ?_⟩) hHeld ?_ ?_
                    rotate_left
                    · rintro w' ⟨s0, s1, s2, s3, s4, s5, s6, s7, s8, s9, s10, s11, s12, s13, s14, s15, s16, s17, s18, s19, s20, s21, s22, s23, s24, s25, s26, s27, s28, s29⟩
                      go_simp
                      with_reducible rfl
                    rotate_left
                    · simp only [Act.put, List.setIfInBounds_toArray, List.set_cons_zero, List.set_cons_succ, i64_w, i32_w]
                      rfl
                    refine take_ (i := 35) (N := some 52) (v := ?_) (a' := ?_) (bm 39 0xfffffffff) rfl rfl (take_ofW HT_.out HW_.out (by kernel_rfl)) (fun _ _ _ h => h) (Or.inl ⟨by rfl, ?_⟩) hHeld ?_ ?_
                    rotate_left
                    · rintro w' ⟨s0, s1, s2, s3, s4, s5, s6, s7, s8, s9, s10, s11, s12, s13, s14, s15, s16, s17, s18, s19, s20, s21, s22, s23, s24, s25, s26, s27, s28, s29⟩
                      go_simp
                      with_reducible rfl
                    rotate_left
                    · simp only [Act.put, List.setIfInBounds_toArray, List.set_cons_zero, List.set_cons_succ, i64_w, i32_w]
                      rfl
                    refine one_ (i := 36) (N := some 53) (bm 39 0x1fffffffff) rfl rfl (one_of HT_.out (by kernel_rfl)) (by decide) (fun K hK => ?_)
                    refine goes_ Try.func18 (by kernel_rfl) rfl #[.slice A395_4 ((rd_T63 l0 x5_1).f2).length c395_4, .slice A396_4 ((rd_T63 l1 x5_1).f2).length c396_4] (by rfl) rfl rfl (by (try simp only [List.map_toArray, List.map_cons, List.map_nil]); rfl) ?_
                    with_reducible refine (remontoirref03_SameList.calls k1 _ _ ((rd_T63 l0 x5_1).f2) _ _ ((rd_T63 l1 x5_1).f2) false _ ?side1 ?side2 ?side3 ?side4 A11.out).mono ?_
                    (case side1 => repeat ((exact (Kd.C_below HR400_4.out (by repeat ((with_reducible first | exact HB.out | apply pw_below_drewN)))))))
                    (case side2 => exact HC400_4.out)
                    (case side3 => repeat ((exact (Kd.C_below HR401_4.out (by repeat ((with_reducible first | exact HB.out | apply pw_below_drewN)))))))
                    (case side4 => exact HC401_4.out)
                    rintro e w' ⟨rfl, ⟨nd, rfl⟩⟩
                    refine ⟨_, rfl, ?_⟩
                    refine hK.out _ _ ⟨((HB.out.cell (World.block_lt_of_cell? w _ hw395_0)).trans hw395_0), ((HB.out.cell (World.block_lt_of_cell? w _ hw395_1)).trans hw395_1), ((HB.out.cell (World.block_lt_of_cell? w _ hw395_2)).trans hw395_2), ((HB.out.cell (World.block_lt_of_cell? w _ hw395_3)).trans hw395_3), ((HB.out.cell (World.block_lt_of_cell? w _ hw395_4)).trans hw395_4), ((HB.out.cell (World.block_lt_of_cell? w _ hw396_0)).trans hw396_0), ((HB.out.cell (World.block_lt_of_cell? w _ hw396_1)).trans hw396_1), ((HB.out.cell (World.block_lt_of_cell? w _ hw396_2)).trans hw396_2), ((HB.out.cell (World.block_lt_of_cell? w _ hw396_3)).trans hw396_3), ((HB.out.cell (World.block_lt_of_cell? w _ hw396_4)).trans hw396_4), ((HB.out.cell (World.block_lt_of_cell? w _ hw397_0)).trans hw397_0), ((HB.out.cell (World.block_lt_of_cell? w _ hw397_1)).trans hw397_1), ((HB.out.cell (World.block_lt_of_cell? w _ hw397_2)).trans hw397_2), ((HB.out.cell (World.block_lt_of_cell? w _ hw397_3)).trans hw397_3), ((HB.out.cell (World.block_lt_of_cell? w _ hw397_4)).trans hw397_4), ((HB.out.cell (World.block_lt_of_cell? w _ hw398_0)).trans hw398_0), ((HB.out.cell (World.block_lt_of_cell? w _ hw398_1)).trans hw398_1), ((HB.out.cell (World.block_lt_of_cell? w _ hw398_2)).trans hw398_2), ((HB.out.cell (World.block_lt_of_cell? w _ hw398_3)).trans hw398_3), ((HB.out.cell (World.block_lt_of_cell? w _ hw398_4)).trans hw398_4), ((HB.out.cell (World.block_lt_of_cell? w _ hw400_0)).trans hw400_0), ((HB.out.cell (World.block_lt_of_cell? w _ hw400_1)).trans hw400_1), ((HB.out.cell (World.block_lt_of_cell? w _ hw400_2)).trans hw400_2), ((HB.out.cell (World.block_lt_of_cell? w _ hw400_3)).trans hw400_3), ((HB.out.cell (World.block_lt_of_cell? w _ hw400_4)).trans hw400_4), ((HB.out.cell (World.block_lt_of_cell? w _ hw401_0)).trans hw401_0), ((HB.out.cell (World.block_lt_of_cell? w _ hw401_1)).trans hw401_1), ((HB.out.cell (World.block_lt_of_cell? w _ hw401_2)).trans hw401_2), ((HB.out.cell (World.block_lt_of_cell? w _ hw401_3)).trans hw401_3), ((HB.out.cell (World.block_lt_of_cell? w _ hw401_4)).trans hw401_4)⟩ (fun hHeld => ?_)
                    clear hK K
                    refine nm_ 53 (h := ?_)
                    refine pa_ 37 54 (bm 39 0x3fffffffff) HT_ (h := ?_)
                    refine pa_ 38 55 (bm 39 0x7fffffffff) HT_ (h := ?_)
                    refine done_ (done_of HT_.out (by kernel_rfl)) ?_
                    try go_wp2
                    go_ret
                    exact ⟨by rfl, by repeat ((with_reducible first | exact HB.out | apply pw_below_drewN))⟩
                · replace c10 := Bool.eq_false_iff.mpr c10
                  subst c10
                  have H1 : (some false) = some r := by rw [if_neg (show ¬ (false = true) by decide)] at H; exact H
                  clear H
                  have H := H1
                  clear H1
                  obtain rfl := Option.some.inj H
                  try go_wp2
                  have n0_ := Aside0.mk (below_drew1 HB.out)
                  clear HB; have HB := n0_; clear n0_
                  have p395 : 0 ≤ (x5_1 : Int) := of_decide_eq_true (by (with_reducible assumption))
                  have q395 : x5_1 < (l0.length : Int) := of_decide_eq_true (by (with_reducible assumption))
                  obtain ⟨ad395, A395_3, c395_3, A395_4, c395_4, e395, hx395_0, hx395_1, hx395_2, hx395_3, hx395_4, hl395_3, hi395_3, hl395_4, hi395_4⟩ := at_T63 HR0.out x5_1 p395 q395
                  have hw395_4 := hx395_4
                  have hw395_3 := hx395_3
                  have hw395_2 := hx395_2
                  have hw395_1 := hx395_1
                  have hw395_0 := hx395_0
                  cases e395
                  replace hx395_0 := (HB.out.cell (World.block_lt_of_cell? w _ hx395_0)).trans hx395_0
                  replace hx395_1 := (HB.out.cell (World.block_lt_of_cell? w _ hx395_1)).trans hx395_1
                  replace hx395_2 := (HB.out.cell (World.block_lt_of_cell? w _ hx395_2)).trans hx395_2
                  replace hx395_3 := (HB.out.cell (World.block_lt_of_cell? w _ hx395_3)).trans hx395_3
                  replace hx395_4 := (HB.out.cell (World.block_lt_of_cell? w _ hx395_4)).trans hx395_4
                  have HR395_3 := Aside0.mk hi395_3
                  have HC395_3 := Aside0.mk hl395_3
                  clear hi395_3 hl395_3
                  have HR395_4 := Aside0.mk hi395_4
                  have HC395_4 := Aside0.mk hl395_4
                  clear hi395_4 hl395_4
                  replace p395 := eq_true p395
                  replace q395 := eq_true q395
                  have p396 : 0 ≤ (x5_1 : Int) := of_decide_eq_true (by (with_reducible assumption))
                  have q396 : x5_1 < (l1.length : Int) := of_decide_eq_true (by (with_reducible assumption))
                  obtain ⟨ad396, A396_3, c396_3, A396_4, c396_4, e396, hx396_0, hx396_1, hx396_2, hx396_3, hx396_4, hl396_3, hi396_3, hl396_4, hi396_4⟩ := at_T63 HR1.out x5_1 p396 q396
                  have hw396_4 := hx396_4
                  have hw396_3 := hx396_3
                  have hw396_2 := hx396_2
                  have hw396_1 := hx396_1
                  have hw396_0 := hx396_0
                  cases e396
                  replace hx396_0 := (HB.out.cell (World.block_lt_of_cell? w _ hx396_0)).trans hx396_0
                  replace hx396_1 := (HB.out.cell (World.block_lt_of_cell? w _ hx396_1)).trans hx396_1
                  replace hx396_2 := (HB.out.cell (World.block_lt_of_cell? w _ hx396_2)).trans hx396_2
                  replace hx396_3 := (HB.out.cell (World.block_lt_of_cell? w _ hx396_3)).trans hx396_3
                  replace hx396_4 := (HB.out.cell (World.block_lt_of_cell? w _ hx396_4)).trans hx396_4
                  have HR396_3 := Aside0.mk hi396_3
                  have HC396_3 := Aside0.mk hl396_3
                  clear hi396_3 hl396_3
                  have HR396_4 := Aside0.mk hi396_4
                  have HC396_4 := Aside0.mk hl396_4
                  clear hi396_4 hl396_4
                  replace p396 := eq_true p396
                  replace q396 := eq_true q396
                  have p397 : 0 ≤ (x5_1 : Int) := of_decide_eq_true (by (with_reducible assumption))
                  have q397 : x5_1 < (l0.length : Int) := of_decide_eq_true (by (with_reducible assumption))
                  obtain ⟨ad397, A397_3, c397_3, A397_4, c397_4, e397, hx397_0, hx397_1, hx397_2, hx397_3, hx397_4, hl397_3, hi397_3, hl397_4, hi397_4⟩ := at_T63 HR0.out x5_1 p397 q397
                  have hw397_4 := hx397_4
                  have hw397_3 := hx397_3
                  have hw397_2 := hx397_2
                  have hw397_1 := hx397_1
                  have hw397_0 := hx397_0
                  obtain rfl : ad395 = ad397 := (by injection e397)
                  replace hx397_0 := (HB.out.cell (World.block_lt_of_cell? w _ hx397_0)).trans hx397_0
                  replace hx397_1 := (HB.out.cell (World.block_lt_of_cell? w _ hx397_1)).trans hx397_1
                  replace hx397_2 := (HB.out.cell (World.block_lt_of_cell? w _ hx397_2)).trans hx397_2
                  replace hx397_3 := (HB.out.cell (World.block_lt_of_cell? w _ hx397_3)).trans hx397_3
                  replace hx397_4 := (HB.out.cell (World.block_lt_of_cell? w _ hx397_4)).trans hx397_4
                  have HR397_3 := Aside0.mk hi397_3
                  have HC397_3 := Aside0.mk hl397_3
                  clear hi397_3 hl397_3
                  have HR397_4 := Aside0.mk hi397_4
                  have HC397_4 := Aside0.mk hl397_4
                  clear hi397_4 hl397_4
                  replace p397 := eq_true p397
                  replace q397 := eq_true q397
                  have ea_ := Option.some.inj (hx395_3.symm.trans hx397_3)
                  injection ea_ with ea_ en_ ec_
                  subst ea_
                  subst ec_
                  clear en_
                  have ea_ := Option.some.inj (hx395_4.symm.trans hx397_4)
                  injection ea_ with ea_ en_ ec_
                  subst ea_
                  subst ec_
                  clear en_
                  have p398 : 0 ≤ (x5_1 : Int) := of_decide_eq_true (by (with_reducible assumption))
                  have q398 : x5_1 < (l1.length : Int) := of_decide_eq_true (by (with_reducible assumption))
                  obtain ⟨ad398, A398_3, c398_3, A398_4, c398_4, e398, hx398_0, hx398_1, hx398_2, hx398_3, hx398_4, hl398_3, hi398_3, hl398_4, hi398_4⟩ := at_T63 HR1.out x5_1 p398 q398
                  have hw398_4 := hx398_4
                  have hw398_3 := hx398_3
                  have hw398_2 := hx398_2
                  have hw398_1 := hx398_1
                  have hw398_0 := hx398_0
                  obtain rfl : ad396 = ad398 := (by injection e398)
                  replace hx398_0 := (HB.out.cell (World.block_lt_of_cell? w _ hx398_0)).trans hx398_0
                  replace hx398_1 := (HB.out.cell (World.block_lt_of_cell? w _ hx398_1)).trans hx398_1
                  replace hx398_2 := (HB.out.cell (World.block_lt_of_cell? w _ hx398_2)).trans hx398_2
                  replace hx398_3 := (HB.out.cell (World.block_lt_of_cell? w _ hx398_3)).trans hx398_3
                  replace hx398_4 := (HB.out.cell (World.block_lt_of_cell? w _ hx398_4)).trans hx398_4
                  have HR398_3 := Aside0.mk hi398_3
                  have HC398_3 := Aside0.mk hl398_3
                  clear hi398_3 hl398_3
                  have HR398_4 := Aside0.mk hi398_4
                  have HC398_4 := Aside0.mk hl398_4
                  clear hi398_4 hl398_4
                  replace p398 := eq_true p398
                  replace q398 := eq_true q398
                  have ea_ := Option.some.inj (hx396_3.symm.trans hx398_3)
                  injection ea_ with ea_ en_ ec_
                  subst ea_
                  subst ec_
                  clear en_
                  have ea_ := Option.some.inj (hx396_4.symm.trans hx398_4)
                  injection ea_ with ea_ en_ ec_
                  subst ea_
                  subst ec_
                  clear en_
                  refine start_ (n := 39) (S := fun w' => hc5_ w' (ad395.add ((x5_1).toNat * 5)) (.int .i64 ((rd_T63 l0 x5_1).f0.f0)) (.int .i64 ((rd_T63 l0 x5_1).f0.f1)) (.int .i64 ((rd_T63 l0 x5_1).f0.f2)) (.slice A395_3 ((rd_T63 l0 x5_1).f1).length c395_3) (.slice A395_4 ((rd_T63 l0 x5_1).f2).length c395_4) (hc5_ w' (ad396.add ((x5_1).toNat * 5)) (.int .i64 ((rd_T63 l1 x5_1).f0.f0)) (.int .i64 ((rd_T63 l1 x5_1).f0.f1)) (.int .i64 ((rd_T63 l1 x5_1).f0.f2)) (.slice A396_3 ((rd_T63 l1 x5_1).f1).length c396_3) (.slice A396_4 ((rd_T63 l1 x5_1).f2).length c396_4) (hc5_ w' (ad395.add ((x5_1).toNat * 5)) (.int .i64 ((rd_T63 l0 x5_1).f0.f0)) (.int .i64 ((rd_T63 l0 x5_1).f0.f1)) (.int .i64 ((rd_T63 l0 x5_1).f0.f2)) (.slice A395_3 ((rd_T63 l0 x5_1).f1).length c395_3) (.slice A395_4 ((rd_T63 l0 x5_1).f2).length c395_4) (he5_ w' (ad396.add ((x5_1).toNat * 5)) (.int .i64 ((rd_T63 l1 x5_1).f0.f0)) (.int .i64 ((rd_T63 l1 x5_1).f0.f1)) (.int .i64 ((rd_T63 l1 x5_1).f0.f2)) (.slice A396_3 ((rd_T63 l1 x5_1).f1).length c396_3) (.slice A396_4 ((rd_T63 l1 x5_1).f2).length c396_4))))) (ds := []) #[false, false, false, false, false, false, false, false, false, false, false, false, false, false, false, false, false, false, false, false, false, false, false, false, false, false, false, false, false, false, false, false, false, false, false, false, false, false, false] (by kernel_rfl) rfl rfl ⟨((HB.out.cell (World.block_lt_of_cell? w _ hw395_0)).trans hw395_0), ((HB.out.cell (World.block_lt_of_cell? w _ hw395_1)).trans hw395_1), ((HB.out.cell (World.block_lt_of_cell? w _ hw395_2)).trans hw395_2), ((HB.out.cell (World.block_lt_of_cell? w _ hw395_3)).trans hw395_3), ((HB.out.cell (World.block_lt_of_cell? w _ hw395_4)).trans hw395_4), ((HB.out.cell (World.block_lt_of_cell? w _ hw396_0)).trans hw396_0), ((HB.out.cell (World.block_lt_of_cell? w _ hw396_1)).trans hw396_1), ((HB.out.cell (World.block_lt_of_cell? w _ hw396_2)).trans hw396_2), ((HB.out.cell (World.block_lt_of_cell? w _ hw396_3)).trans hw396_3), ((HB.out.cell (World.block_lt_of_cell? w _ hw396_4)).trans hw396_4), ((HB.out.cell (World.block_lt_of_cell? w _ hw397_0)).trans hw397_0), ((HB.out.cell (World.block_lt_of_cell? w _ hw397_1)).trans hw397_1), ((HB.out.cell (World.block_lt_of_cell? w _ hw397_2)).trans hw397_2), ((HB.out.cell (World.block_lt_of_cell? w _ hw397_3)).trans hw397_3), ((HB.out.cell (World.block_lt_of_cell? w _ hw397_4)).trans hw397_4), ((HB.out.cell (World.block_lt_of_cell? w _ hw398_0)).trans hw398_0), ((HB.out.cell (World.block_lt_of_cell? w _ hw398_1)).trans hw398_1), ((HB.out.cell (World.block_lt_of_cell? w _ hw398_2)).trans hw398_2), ((HB.out.cell (World.block_lt_of_cell? w _ hw398_3)).trans hw398_3), ((HB.out.cell (World.block_lt_of_cell? w _ hw398_4)).trans hw398_4)⟩ (fun hHeld => ?_); refine with_tabW remontoirlaw18_Same.tab6 remontoirlaw18_Same.bits6 (fun HT_ HW_ => ?_)
                  generalize wr.drew = w15 at HB HR395_3 HR395_4 HR396_3 HR396_4 HR397_3 HR397_4 HR398_3 HR398_4 hx395_0 hx395_1 hx395_2 hx395_3 hx395_4 hx396_0 hx396_1 hx396_2 hx396_3 hx396_4 hx397_0 hx397_1 hx397_2 hx397_3 hx397_4 hx398_0 hx398_1 hx398_2 hx398_3 hx398_4 hHeld ⊢
                  refine pa_ 0 17 (bm 39 0x1) HT_ (h := ?_)
                  refine pa_ 1 18 (bm 39 0x3) HT_ (h := ?_)
                  refine pa_ 2 19 (bm 39 0x7) HT_ (h := ?_)
                  refine pa_ 3 20 (bm 39 0xf) HT_ (h := ?_)
                  refine pa_ 5 22 (bm 39 0x2f) HT_ (h := ?_)
                  refine pa_ 6 23 (bm 39 0x6f) HT_ (h := ?_)
                  refine pa_ 7 24 (bm 39 0xef) HT_ (h := ?_)
                  refine pa_ 8 25 (bm 39 0x1ef) HT_ (h := ?_)
                  refine take_ (i := 4) (N := some 21) (v := ?_) (a' := ?_) (bm 39 0x1ff) rfl rfl (take_ofW HT_.out HW_.out (by kernel_rfl)) (fun _ _ _ h => h) (Or.inl ⟨by rfl, ?_⟩) hHeld ?_ ?_
                  rotate_left
                  · rintro w' ⟨s0, s1, s2, s3, s4, s5, s6, s7, s8, s9, s10, s11, s12, s13, s14, s15, s16, s17, s18, s19⟩
                    go_simp
                    with_reducible rfl
                  rotate_left
                  · simp only [Act.put, List.setIfInBounds_toArray, List.set_cons_zero, List.set_cons_succ, i64_w, i32_w]
                    rfl
                  refine take_ (i := 9) (N := some 26) (v := ?_) (a' := ?_) (bm 39 0x3ff) rfl rfl (take_ofW HT_.out HW_.out (by kernel_rfl)) (fun _ _ _ h => h) (Or.inl ⟨by rfl, ?_⟩) hHeld ?_ ?_
                  rotate_left
                  · rintro w' ⟨s0, s1, s2, s3, s4, s5, s6, s7, s8, s9, s10, s11, s12, s13, s14, s15, s16, s17, s18, s19⟩
                    go_simp
                    with_reducible rfl
                  rotate_left
                  · simp only [Act.put, List.setIfInBounds_toArray, List.set_cons_zero, List.set_cons_succ, i64_w, i32_w]
                    rfl
                  refine pa_ 10 27 (bm 39 0x7ff) HT_ (h := ?_)
                  refine pa_ 11 28 (bm 39 0xfff) HT_ (h := ?_)
                  refine pa_ 12 29 (bm 39 0x1fff) HT_ (h := ?_)
                  refine pa_ 13 30 (bm 39 0x3fff) HT_ (h := ?_)
                  refine pa_ 14 31 (bm 39 0x7fff) HT_ (h := ?_)
                  refine pa_ 15 32 (bm 39 0xffff) HT_ (h := ?_)
                  refine pa_ 17 34 (bm 39 0x2ffff) HT_ (h := ?_)
                  refine pa_ 18 35 (bm 39 0x6ffff) HT_ (h := ?_)
                  refine pa_ 19 36 (bm 39 0xeffff) HT_ (h := ?_)
                  refine pa_ 20 37 (bm 39 0x1effff) HT_ (h := ?_)
                  refine take_ (i := 16) (N := some 33) (v := ?_) (a' := ?_) (bm 39 0x1fffff) rfl rfl (take_ofW HT_.out HW_.out (by kernel_rfl)) (fun _ _ _ h => h) (Or.inl ⟨by rfl, ?_⟩) hHeld ?_ ?_
                  rotate_left
                  · rintro w' ⟨s0, s1, s2, s3, s4, s5, s6, s7, s8, s9, s10, s11, s12, s13, s14, s15, s16, s17, s18, s19⟩
                    go_simp
                    with_reducible rfl
                  rotate_left
                  · simp only [Act.put, List.setIfInBounds_toArray, List.set_cons_zero, List.set_cons_succ, i64_w, i32_w]
                    rfl
                  refine take_ (i := 21) (N := some 38) (v := ?_) (a' := ?_) (bm 39 0x3fffff) rfl rfl (take_ofW HT_.out HW_.out (by kernel_rfl)) (fun _ _ _ h => h) (Or.inl ⟨by rfl, ?_⟩) hHeld ?_ ?_
                  rotate_left
                  · rintro w' ⟨s0, s1, s2, s3, s4, s5, s6, s7, s8, s9, s10, s11, s12, s13, s14, s15, s16, s17, s18, s19⟩
                    go_simp
                    with_reducible rfl
                  rotate_left
                  · simp only [Act.put, List.setIfInBounds_toArray, List.set_cons_zero, List.set_cons_succ, i64_w, i32_w]
                    rfl
                  refine one_ (i := 22) (N := some 39) (bm 39 0x7fffff) rfl rfl (one_of HT_.out (by kernel_rfl)) (by decide) (fun K hK => ?_)
                  refine goes_ Try.func18 (by kernel_rfl) rfl #[.slice A395_3 ((rd_T63 l0 x5_1).f1).length c395_3, .slice A396_3 ((rd_T63 l1 x5_1).f1).length c396_3] (by rfl) rfl rfl (by (try simp only [List.map_toArray, List.map_cons, List.map_nil]); rfl) ?_
                  with_reducible refine (remontoirref03_SameList.calls k1 _ _ ((rd_T63 l0 x5_1).f1) _ _ ((rd_T63 l1 x5_1).f1) false _ ?side1 ?side2 ?side3 ?side4 A9.out).mono ?_
                  (case side1 => repeat ((exact (Kd.C_below HR397_3.out HB.out))))
                  (case side2 => exact HC397_3.out)
                  (case side3 => repeat ((exact (Kd.C_below HR398_3.out HB.out))))
                  (case side4 => exact HC398_3.out)
                  rintro e w' ⟨rfl, ⟨nd, rfl⟩⟩
                  refine ⟨_, rfl, ?_⟩
                  refine hK.out _ _ ⟨((HB.out.cell (World.block_lt_of_cell? w _ hw395_0)).trans hw395_0), ((HB.out.cell (World.block_lt_of_cell? w _ hw395_1)).trans hw395_1), ((HB.out.cell (World.block_lt_of_cell? w _ hw395_2)).trans hw395_2), ((HB.out.cell (World.block_lt_of_cell? w _ hw395_3)).trans hw395_3), ((HB.out.cell (World.block_lt_of_cell? w _ hw395_4)).trans hw395_4), ((HB.out.cell (World.block_lt_of_cell? w _ hw396_0)).trans hw396_0), ((HB.out.cell (World.block_lt_of_cell? w _ hw396_1)).trans hw396_1), ((HB.out.cell (World.block_lt_of_cell? w _ hw396_2)).trans hw396_2), ((HB.out.cell (World.block_lt_of_cell? w _ hw396_3)).trans hw396_3), ((HB.out.cell (World.block_lt_of_cell? w _ hw396_4)).trans hw396_4), ((HB.out.cell (World.block_lt_of_cell? w _ hw397_0)).trans hw397_0), ((HB.out.cell (World.block_lt_of_cell? w _ hw397_1)).trans hw397_1), ((HB.out.cell (World.block_lt_of_cell? w _ hw397_2)).trans hw397_2), ((HB.out.cell (World.block_lt_of_cell? w _ hw397_3)).trans hw397_3), ((HB.out.cell (World.block_lt_of_cell? w _ hw397_4)).trans hw397_4), ((HB.out.cell (World.block_lt_of_cell? w _ hw398_0)).trans hw398_0), ((HB.out.cell (World.block_lt_of_cell? w _ hw398_1)).trans hw398_1), ((HB.out.cell (World.block_lt_of_cell? w _ hw398_2)).trans hw398_2), ((HB.out.cell (World.block_lt_of_cell? w _ hw398_3)).trans hw398_3), ((HB.out.cell (World.block_lt_of_cell? w _ hw398_4)).trans hw398_4)⟩ (fun hHeld => ?_)
                  clear hK K
                  refine nm_ 39 (h := ?_)
                  refine pa_ 23 40 (bm 39 0xffffff) HT_ (h := ?_)
                  refine pa_ 24 41 (bm 39 0x1ffffff) HT_ (h := ?_)
                  refine pa_ 25 42 (bm 39 0x3ffffff) HT_ (h := ?_)
                  refine pz_ 26 43 (bm 39 0x7ffffff) HT_ (h := ?_)
                  refine pz_ 27 44 (bm 39 0xfffffff) HT_ (h := ?_)
                  refine pz_ 28 45 (bm 39 0x1fffffff) HT_ (h := ?_)
                  refine pz_ 29 46 (bm 39 0x3fffffff) HT_ (h := ?_)
                  refine pz_ 30 47 (bm 39 0x7fffffff) HT_ (h := ?_)
                  refine pz_ 31 48 (bm 39 0xffffffff) HT_ (h := ?_)
                  refine pz_ 32 49 (bm 39 0x1ffffffff) HT_ (h := ?_)
                  refine pz_ 33 50 (bm 39 0x3ffffffff) HT_ (h := ?_)
                  refine pz_ 34 51 (bm 39 0x7ffffffff) HT_ (h := ?_)
                  refine pz_ 35 52 (bm 39 0xfffffffff) HT_ (h := ?_)
                  refine pz_ 36 53 (bm 39 0x1fffffffff) HT_ (h := ?_)
                  refine pz_ 37 54 (bm 39 0x3fffffffff) HT_ (h := ?_)
                  refine pa_ 38 55 (bm 39 0x7fffffffff) HT_ (h := ?_)
                  refine done_ (done_of HT_.out (by kernel_rfl)) ?_
                  try go_wp2
                  go_ret
                  exact ⟨by rfl, by repeat ((with_reducible first | exact HB.out | apply pw_below_drewN))⟩
            · rw [if_neg c6] at H
              exact absurd H (by simp)
          · rw [if_neg c5] at H
            exact absurd H (by simp)
        · rw [if_neg c4] at H
          have c4b0 : decide (x5_1 < (l0.length : Int)) = false := decide_eq_false c4
          clear c4
          obtain rfl := Option.some.inj H
          go_wp2
          go_ret
          exact ⟨by rfl, by repeat ((with_reducible (exact HB.out)))⟩
  · rw [if_neg c3] at H
    have c3b0 : ((l0.length : Int) == (l1.length : Int)) = false := beq_eq_false_iff_ne.mpr c3
    have c3b1 : ((l0.length : Int) != (l1.length : Int)) = true := bne_iff_ne.mpr c3
    have c3b2 : (l0.length == l1.length) = false := by (simp at c3 ⊢; omega)
    obtain rfl := Option.some.inj H
    go_enter Try.func38, Try.ntmps38
    go_wp2
    go_ret
    exact ⟨by rfl, by repeat ((with_reducible (exact HB.out)))⟩

end Go.Proofs.Yteddflcloeelhaa.FPort
