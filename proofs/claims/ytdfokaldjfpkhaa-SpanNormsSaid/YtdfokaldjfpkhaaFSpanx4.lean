-- Written by the session (wip/tools) for this claim: functions of the program as Lean functions, and their contracts.
import Derived.Test.YtdfokaldjfpkhaaFSpanx0
import Derived.Test.YtdfokaldjfpkhaaFSpanx2
import Derived.Test.YtdfokaldjfpkhaaFSpanx3
namespace Go.Proofs.Ytdfokaldjfpkhaa.FSpan
open Go.RowKit Go.Proofs.YtdfokaldjfpkhaaW.PrintWords Go.Proofs.YtdfokaldjfpkhaaW.PrintLast Go.Proofs.YtdfokaldjfpkhaaW.PrintMore
attribute [local go_sem] max2_int min2_int max_two min_two max_three min_three max_four min_four   -- for this text's walks alone
set_option linter.unusedVariables false
set_option linter.unusedSimpArgs false

/-! ### span_Norm: function 18 -/
def span_NormAdd.f (l : List S29) (x0 x1 : Int) : List S29 :=
  if 0 < l.length ∧ x0 ≤ (rd_T29 l ((l.length : Int) - 1)).f1 then l.set ((l.length : Int) - 1).toNat ⟨(rd_T29 l ((l.length : Int) - 1)).f0, if (rd_T29 l ((l.length : Int) - 1)).f1 < x1 then x1 else (rd_T29 l ((l.length : Int) - 1)).f1⟩ else l ++ [⟨x0, x1⟩]
def span_NormAdd.T2 : Bool × List (List Nat × List Nat) := (true, [([], []), ([0], [0]), ([1], [1]), ([2], [2]), ([2], [2]), ([3, 4, 2], [2, 3, 4]), ([5, 2], [2, 5]), ([6, 2], [2, 6]), ([2], [2]), ([8, 2], [2, 8]), ([7, 9, 2], [2, 7, 9]), ([2, 10], [2, 10])])
def span_NormAdd.B2 : List Nat := [0, 1, 3, 7, 7, 31, 63, 127, 7, 263, 1023, 2047]
theorem span_NormAdd.tab2 : rtab .any (opsOf Try.f40 2) = span_NormAdd.T2 := by kernel_rfl
theorem span_NormAdd.bits2 : waitsOk span_NormAdd.T2.2 span_NormAdd.B2 = true := by kernel_rfl
def span_NormAdd.T3 : Bool × List (List Nat × List Nat) := (true, [([], []), ([], []), ([], []), ([], []), ([2, 3], [2, 3]), ([4], [4]), ([5], [5]), ([], []), ([7], [7]), ([6, 8], [6, 8]), ([0, 1, 0, 1, 2, 3, 4, 5, 6, 7, 8, 9], [0, 1]), ([10, 0, 1, 2, 3, 4, 5, 6, 7, 8, 9], [10]), ([11, 9, 0, 1, 2, 3, 4, 5, 6, 7, 8, 9], [9, 11])])
def span_NormAdd.B3 : List Nat := [0, 0, 0, 0, 12, 28, 60, 0, 128, 508, 1023, 2047, 4095]
theorem span_NormAdd.tab3 : rtab .any (opsOf Try.f40 3) = span_NormAdd.T3 := by kernel_rfl
theorem span_NormAdd.bits3 : waitsOk span_NormAdd.T3.2 span_NormAdd.B3 = true := by kernel_rfl
set_option maxHeartbeats 8000000 in
set_option maxRecDepth 100000 in
theorem span_NormAdd.calls (l : List S29) (x0 x1 : Int) (base gb : Nat) (v : Value) (w : World)
   (hb : w.heap[gb]? = some (.cells #[v] 22 (0,0))) (hgb : base ≤ gb) (hr : Kd.R k29 29 w base (fun k => k ≠ gb) v l) (hlen : l.length < 8796093022208) :
   Calls Try.prog 40 #[.agg #[.int .i64 x0, .int .i64 x1], .pointer (some ⟨gb,0,none⟩)] w fun e w' => e = .returned (.tuple #[]) ∧ ∃ v', w'.heap[gb]? = some (.cells #[v'] 22 (0,0)) ∧ Kd.R k29 29 w' base (fun k => k ≠ gb) v' (span_NormAdd.f l x0 x1) ∧ Below base w w' ∧ (∀ k, k < w.heap.size → k ≠ gb → some k ≠ v.ownBlock → w'.heap[k]? = w.heap[k]?) ∧ (v'.ownBlock = v.ownBlock ∨ ∃ b, v'.ownBlock = some b ∧ w.heap.size ≤ b) := by
  have hu29 := Try.underlying29
  have hgl := blk_lt hb
  have hv0 : w.cell? ⟨gb, 0, none⟩ = some v := blk_cell hb 0
  obtain ⟨A, c, rfl, hc, hC⟩ := Kd.R_reads hr
  by_cases hl : 0 < l.length
  · obtain ⟨g, cap, he, hg0, hglt, cells, hgc⟩ := Kd.R_form hr hl
    obtain ⟨rfl, rfl⟩ : A = some ⟨g, 0, none⟩ ∧ c = cap := by simpa using he
    obtain ⟨ad, e1, h1, h2⟩ := at_T29 hC ((l.length : Int) - 1) (by omega) (by omega)
    obtain rfl : ad = ⟨g, 0, none⟩ := by simpa using e1.symm
    clear e1
    have hin : ((l.length : Int) - 1).toNat = l.length - 1 := by omega
    rw [hin, add_plain] at h1 h2
    have hp1 := eq_true (show (1 : Int) ≤ (l.length : Int) by omega)
    have hp2 := eq_true (show (l.length : Int) - 1 < (l.length : Int) by omega)
    have hd1 : decide ((1 : Int) ≤ (l.length : Int)) = true := decide_eq_true (by omega)
    have hd2 : decide ((0 : Int) ≤ (l.length : Int) - 1) = true := decide_eq_true (by omega)
    by_cases hx : x0 ≤ (rd_T29 l ((l.length : Int) - 1)).f1
    · have hxb : decide (x0 ≤ (rd_T29 l ((l.length : Int) - 1)).f1) = true := decide_eq_true hx
      go_enter Try.func40, Try.ntmps40
      go_wp2_with (first | ((with_reducible refine gate_dst (N := 2) rfl ?_); refine box_event ?hg (N := 2) ?hd (cs := #[.int .i64 x0, .int .i64 x1]) (t := 29) ?hr ?_; (case hd => rfl); (case hg => rfl); (case hr => first | (go_simp; done) | (go_simp; rfl)); intro gx hgx w1 hbx hbel; have hgx' : Aside0 (w.heap.size ≤ gx) := ⟨by omega⟩; clear hgx; have hv1 := (hbel.cell (World.block_lt_of_cell? w _ hv0)).trans hv0))
      refine start_ (n := 12) (S := fun w' => w'.cell? ⟨gb, 0, none⟩ = some (.slice (some ⟨g, 0, none⟩) l.length c) ∧ w'.cell? ⟨gx, 0, none⟩ = some (.int .i64 x0) ∧ w'.cell? ⟨gx, 1, none⟩ = some (.int .i64 x1) ∧ w'.cell? ⟨g, (l.length - 1) * 2, none⟩ = some (.int .i64 (rd_T29 l ((l.length : Int) - 1)).f0) ∧ w'.cell? ⟨g, (l.length - 1) * 2 + 1, none⟩ = some (.int .i64 (rd_T29 l ((l.length : Int) - 1)).f1)) (ds := []) #[false, false, false, false, false, false, false, false, false, false, false, false] (by kernel_rfl) rfl rfl ⟨hv1, (blk_cell hbx 0).trans rfl, (blk_cell hbx 1).trans rfl, ((hbel.cell (World.block_lt_of_cell? w _ h1)).trans h1), ((hbel.cell (World.block_lt_of_cell? w _ h2)).trans h2)⟩ (fun hHeld => ?_)
      refine with_tabW span_NormAdd.tab2 span_NormAdd.bits2 (fun HT_ HW_ => ?_)
      refine pure_ (i := 0) (N := some 7) (v := ?_) (a' := ?_) #[true, false, false, false, false, false, false, false, false, false, false, false] rfl rfl (any_of HT_.out (by kernel_rfl)) (fun _ _ _ h => h) (Or.inl ⟨by rfl, ?_⟩) ?_ ?_
      rotate_left
      · intro w'
        go_simp
        with_reducible rfl
      rotate_left
      · simp only [Act.put, List.setIfInBounds_toArray, List.set_cons_zero, List.set_cons_succ, i64_w, i32_w]
        rfl
      refine pure_ (i := 1) (N := some 8) (v := ?_) (a' := ?_) #[true, true, false, false, false, false, false, false, false, false, false, false] rfl rfl (any_of HT_.out (by kernel_rfl)) (fun _ _ _ h => h) (Or.inl ⟨by rfl, ?_⟩) ?_ ?_
      rotate_left
      · intro w'
        go_simp
        with_reducible rfl
      rotate_left
      · simp only [Act.put, List.setIfInBounds_toArray, List.set_cons_zero, List.set_cons_succ, i64_w, i32_w]
        rfl
      refine pure_ (i := 2) (N := some 9) (v := ?_) (a' := ?_) #[true, true, true, false, false, false, false, false, false, false, false, false] rfl rfl (any_of HT_.out (by kernel_rfl)) (fun _ _ _ h => h) (Or.inl ⟨by rfl, ?_⟩) ?_ ?_
      rotate_left
      · intro w'
        go_simp
        with_reducible rfl
      rotate_left
      · simp only [Act.put, List.setIfInBounds_toArray, List.set_cons_zero, List.set_cons_succ, i64_w, i32_w]
        rfl
      refine pure_ (i := 4) (N := some 11) (v := ?_) (a' := ?_) #[true, true, true, false, true, false, false, false, false, false, false, false] rfl rfl (any_of HT_.out (by kernel_rfl)) (fun _ _ _ h => h) (Or.inl ⟨by rfl, ?_⟩) ?_ ?_
      rotate_left
      · intro w'
        go_simp
        with_reducible rfl
      rotate_left
      · simp only [Act.put, List.setIfInBounds_toArray, List.set_cons_zero, List.set_cons_succ, i64_w, i32_w]
        rfl
      refine pure_ (i := 8) (N := some 15) (v := ?_) (a' := ?_) #[true, true, true, false, true, false, false, false, true, false, false, false] rfl rfl (any_of HT_.out (by kernel_rfl)) (fun _ _ _ h => h) (Or.inl ⟨by rfl, ?_⟩) ?_ ?_
      rotate_left
      · intro w'
        go_simp
        with_reducible rfl
      rotate_left
      · simp only [Act.put, List.setIfInBounds_toArray, List.set_cons_zero, List.set_cons_succ, i64_w, i32_w]
        rfl
      refine take_ (i := 3) (N := some 10) (v := ?_) (a' := ?_) #[true, true, true, true, true, false, false, false, true, false, false, false] rfl rfl (take_ofW HT_.out HW_.out (by kernel_rfl)) (fun _ _ _ h => h) (Or.inl ⟨by rfl, ?_⟩) hHeld ?_ ?_
      rotate_left
      · rintro w' ⟨s0, s1, s2, s3, s4⟩
        go_simp
        with_reducible rfl
      rotate_left
      · simp only [Act.put, List.setIfInBounds_toArray, List.set_cons_zero, List.set_cons_succ, i64_w, i32_w]
        rfl
      refine pure_ (i := 5) (N := some 12) (v := ?_) (a' := ?_) #[true, true, true, true, true, true, false, false, true, false, false, false] rfl rfl (any_of HT_.out (by kernel_rfl)) (fun _ _ _ h => h) (Or.inl ⟨by rfl, ?_⟩) ?_ ?_
      rotate_left
      · intro w'
        go_simp
        with_reducible rfl
      rotate_left
      · simp only [Act.put, List.setIfInBounds_toArray, List.set_cons_zero, List.set_cons_succ, i64_w, i32_w]
        rfl
      refine pure_ (i := 6) (N := some 13) (v := ?_) (a' := ?_) #[true, true, true, true, true, true, true, false, true, false, false, false] rfl rfl (any_of HT_.out (by kernel_rfl)) (fun _ _ _ h => h) (Or.inl ⟨by rfl, ?_⟩) ?_ ?_
      rotate_left
      · intro w'
        go_simp
        with_reducible rfl
      rotate_left
      · simp only [Act.put, List.setIfInBounds_toArray, List.set_cons_zero, List.set_cons_succ, i64_w, i32_w]
        rfl
      refine take_ (i := 7) (N := some 14) (v := ?_) (a' := ?_) #[true, true, true, true, true, true, true, true, true, false, false, false] rfl rfl (take_ofW HT_.out HW_.out (by kernel_rfl)) (fun _ _ _ h => h) (Or.inl ⟨by rfl, ?_⟩) hHeld ?_ ?_
      rotate_left
      · rintro w' ⟨s0, s1, s2, s3, s4⟩
        go_simp
        with_reducible rfl
      rotate_left
      · simp only [Act.put, List.setIfInBounds_toArray, List.set_cons_zero, List.set_cons_succ, i64_w, i32_w]
        rfl
      refine take_ (i := 9) (N := some 16) (v := ?_) (a' := ?_) #[true, true, true, true, true, true, true, true, true, true, false, false] rfl rfl (take_ofW HT_.out HW_.out (by kernel_rfl)) (fun _ _ _ h => h) (Or.inl ⟨by rfl, ?_⟩) hHeld ?_ ?_
      rotate_left
      · rintro w' ⟨s0, s1, s2, s3, s4⟩
        go_simp
        with_reducible rfl
      rotate_left
      · simp only [Act.put, List.setIfInBounds_toArray, List.set_cons_zero, List.set_cons_succ, i64_w, i32_w]
        rfl
      refine pure_ (i := 10) (N := some 17) (v := ?_) (a' := ?_) #[true, true, true, true, true, true, true, true, true, true, true, false] rfl rfl (any_of HT_.out (by kernel_rfl)) (fun _ _ _ h => h) (Or.inl ⟨by rfl, ?_⟩) ?_ ?_
      rotate_left
      · intro w'
        go_simp
        with_reducible rfl
      rotate_left
      · simp only [Act.put, List.setIfInBounds_toArray, List.set_cons_zero, List.set_cons_succ, i64_w, i32_w]
        rfl
      refine pure_ (i := 11) (N := some 18) (v := ?_) (a' := ?_) #[true, true, true, true, true, true, true, true, true, true, true, true] rfl rfl (any_of HT_.out (by kernel_rfl)) (fun _ _ _ h => h) (Or.inl ⟨by rfl, ?_⟩) ?_ ?_
      rotate_left
      · intro w'
        go_simp
        with_reducible rfl
      rotate_left
      · simp only [Act.put, List.setIfInBounds_toArray, List.set_cons_zero, List.set_cons_succ, i64_w, i32_w]
        rfl
      refine done_ (done_of HT_.out (by kernel_rfl)) ?_

      go_wp2
      have hfz : w1.drew.drew.frozen? ⟨g, (l.length - 1) * 2 + 1, none⟩ = false := blk_frozen (w := w1.drew.drew) (show w1.drew.drew.heap[g]? = _ from (hbel.block g hglt).trans hgc) _
      have hce : w1.drew.drew.cell? ⟨g, (l.length - 1) * 2 + 1, none⟩ = some (.int .i64 (rd_T29 l ((l.length : Int) - 1)).f1) := ((hbel.cell (World.block_lt_of_cell? w _ h2)).trans h2)
      refine start_ (n := 13) (S := fun w' => w'.cell? ⟨gb, 0, none⟩ = some (.slice (some ⟨g, 0, none⟩) l.length c) ∧ w'.cell? ⟨gx, 0, none⟩ = some (.int .i64 x0) ∧ w'.cell? ⟨gx, 1, none⟩ = some (.int .i64 x1) ∧ w'.cell? ⟨g, (l.length - 1) * 2, none⟩ = some (.int .i64 (rd_T29 l ((l.length : Int) - 1)).f0) ∧ w'.cell? ⟨g, (l.length - 1) * 2 + 1, none⟩ = some (.int .i64 (rd_T29 l ((l.length : Int) - 1)).f1)) (ds := [12]) #[false, false, false, false, false, false, false, false, false, false, false, false, false] (by kernel_rfl) rfl rfl ⟨hv1, (blk_cell hbx 0).trans rfl, (blk_cell hbx 1).trans rfl, ((hbel.cell (World.block_lt_of_cell? w _ h1)).trans h1), ((hbel.cell (World.block_lt_of_cell? w _ h2)).trans h2)⟩ (fun hHeld => ?_)
      refine with_tabW span_NormAdd.tab3 span_NormAdd.bits3 (fun HT_ HW_ => ?_)
      refine pure_ (i := 1) (N := some 20) (v := ?_) (a' := ?_) #[false, true, false, false, false, false, false, false, false, false, false, false, false] rfl rfl (any_of HT_.out (by kernel_rfl)) (fun _ _ _ h => h) (Or.inl ⟨by rfl, ?_⟩) ?_ ?_
      rotate_left
      · intro w'
        go_simp
        with_reducible rfl
      rotate_left
      · simp only [Act.put, List.setIfInBounds_toArray, List.set_cons_zero, List.set_cons_succ, i64_w, i32_w]
        rfl
      refine pure_ (i := 3) (N := some 22) (v := ?_) (a' := ?_) #[false, true, false, true, false, false, false, false, false, false, false, false, false] rfl rfl (any_of HT_.out (by kernel_rfl)) (fun _ _ _ h => h) (Or.inl ⟨by rfl, ?_⟩) ?_ ?_
      rotate_left
      · intro w'
        go_simp
        with_reducible rfl
      rotate_left
      · simp only [Act.put, List.setIfInBounds_toArray, List.set_cons_zero, List.set_cons_succ, i64_w, i32_w]
        rfl
      refine pure_ (i := 7) (N := some 26) (v := ?_) (a' := ?_) #[false, true, false, true, false, false, false, true, false, false, false, false, false] rfl rfl (any_of HT_.out (by kernel_rfl)) (fun _ _ _ h => h) (Or.inl ⟨by rfl, ?_⟩) ?_ ?_
      rotate_left
      · intro w'
        go_simp
        with_reducible rfl
      rotate_left
      · simp only [Act.put, List.setIfInBounds_toArray, List.set_cons_zero, List.set_cons_succ, i64_w, i32_w]
        rfl
      refine take_ (i := 0) (N := some 19) (v := ?_) (a' := ?_) #[true, true, false, true, false, false, false, true, false, false, false, false, false] rfl rfl (take_ofW HT_.out HW_.out (by kernel_rfl)) (fun _ _ _ h => h) (Or.inl ⟨by rfl, ?_⟩) hHeld ?_ ?_
      rotate_left
      · rintro w' ⟨s0, s1, s2, s3, s4⟩
        go_simp
        with_reducible rfl
      rotate_left
      · simp only [Act.put, List.setIfInBounds_toArray, List.set_cons_zero, List.set_cons_succ, i64_w, i32_w]
        rfl
      refine take_ (i := 2) (N := some 21) (v := ?_) (a' := ?_) #[true, true, true, true, false, false, false, true, false, false, false, false, false] rfl rfl (take_ofW HT_.out HW_.out (by kernel_rfl)) (fun _ _ _ h => h) (Or.inl ⟨by rfl, ?_⟩) hHeld ?_ ?_
      rotate_left
      · rintro w' ⟨s0, s1, s2, s3, s4⟩
        go_simp
        with_reducible rfl
      rotate_left
      · simp only [Act.put, List.setIfInBounds_toArray, List.set_cons_zero, List.set_cons_succ, i64_w, i32_w]
        rfl
      refine pure_ (i := 4) (N := some 23) (v := ?_) (a' := ?_) #[true, true, true, true, true, false, false, true, false, false, false, false, false] rfl rfl (any_of HT_.out (by kernel_rfl)) (fun _ _ _ h => h) (Or.inl ⟨by rfl, ?_⟩) ?_ ?_
      rotate_left
      · intro w'
        go_simp
        with_reducible rfl
      rotate_left
      · simp only [Act.put, List.setIfInBounds_toArray, List.set_cons_zero, List.set_cons_succ, i64_w, i32_w]
        rfl
      refine pure_ (i := 5) (N := some 24) (v := ?_) (a' := ?_) #[true, true, true, true, true, true, false, true, false, false, false, false, false] rfl rfl (any_of HT_.out (by kernel_rfl)) (fun _ _ _ h => h) (Or.inl ⟨by rfl, ?_⟩) ?_ ?_
      rotate_left
      · intro w'
        go_simp
        with_reducible rfl
      rotate_left
      · simp only [Act.put, List.setIfInBounds_toArray, List.set_cons_zero, List.set_cons_succ, i64_w, i32_w]
        rfl
      refine take_ (i := 6) (N := some 25) (v := ?_) (a' := ?_) #[true, true, true, true, true, true, true, true, false, false, false, false, false] rfl rfl (take_ofW HT_.out HW_.out (by kernel_rfl)) (fun _ _ _ h => h) (Or.inl ⟨by rfl, ?_⟩) hHeld ?_ ?_
      rotate_left
      · rintro w' ⟨s0, s1, s2, s3, s4⟩
        go_simp
        with_reducible rfl
      rotate_left
      · simp only [Act.put, List.setIfInBounds_toArray, List.set_cons_zero, List.set_cons_succ, i64_w, i32_w]
        rfl
      refine take_ (i := 8) (N := some 27) (v := ?_) (a' := ?_) #[true, true, true, true, true, true, true, true, true, false, false, false, false] rfl rfl (take_ofW HT_.out HW_.out (by kernel_rfl)) (fun _ _ _ h => h) (Or.inl ⟨by rfl, ?_⟩) hHeld ?_ ?_
      rotate_left
      · rintro w' ⟨s0, s1, s2, s3, s4⟩
        go_simp
        with_reducible rfl
      rotate_left
      · simp only [Act.put, List.setIfInBounds_toArray, List.set_cons_zero, List.set_cons_succ, i64_w, i32_w]
        rfl
      refine pure_ (i := 9) (N := some 28) (v := ?_) (a' := ?_) #[true, true, true, true, true, true, true, true, true, true, false, false, false] rfl rfl (any_of HT_.out (by kernel_rfl)) (fun _ _ _ h => h) (Or.inl ⟨by rfl, ?_⟩) ?_ ?_
      rotate_left
      · intro w'
        go_simp
        with_reducible rfl
      rotate_left
      · simp only [Act.put, List.setIfInBounds_toArray, List.set_cons_zero, List.set_cons_succ, i64_w, i32_w]
        rfl
      refine pure_ (i := 10) (N := some 29) (v := ?_) (a' := ?_) #[true, true, true, true, true, true, true, true, true, true, true, false, false] rfl rfl (any_of HT_.out (by kernel_rfl)) (fun _ _ _ h => h) (Or.inl ⟨by rfl, ?_⟩) ?_ ?_
      rotate_left
      · intro w'
        go_simp
        with_reducible rfl
      rotate_left
      · simp only [Act.put, List.setIfInBounds_toArray, List.set_cons_zero, List.set_cons_succ, i64_w, i32_w]
        rfl
      refine pure_ (i := 11) (N := some 30) (v := ?_) (a' := ?_) #[true, true, true, true, true, true, true, true, true, true, true, true, false] rfl rfl (any_of HT_.out (by kernel_rfl)) (fun _ _ _ h => h) (Or.inl ⟨by rfl, ?_⟩) ?_ ?_
      rotate_left
      · intro w'
        go_simp
        with_reducible rfl
      rotate_left
      · simp only [Act.put, List.setIfInBounds_toArray, List.set_cons_zero, List.set_cons_succ, i64_w, i32_w]
        rfl
      refine last_ (i := 12) (N := none) #[true, true, true, true, true, true, true, true, true, true, true, true, true] rfl rfl (one_of HT_.out (by kernel_rfl)) (by decide) (fun K hK => ?_)
      refine skip_ (w1 := ?_) (by rfl) rfl ?_ ?_
      rotate_left
      · go_simp
        rfl
      refine hK.out _ _ ?_
      clear hK K
      refine done_ (done_of HT_.out (by kernel_rfl)) ?_

      generalize hm : (if (rd_T29 l ((l.length : Int) - 1)).f1 < x1 then x1 else (rd_T29 l ((l.length : Int) - 1)).f1) = m
      go_wp2
      first | go_end0 | ((try simp only [Exit.inBlock, Exit.then]); refine bodyPost_ret (results_none rfl _ _ _) rfl ?_)
      have hr1 : Kd.R k29 29 w1.drew.drew base (fun k => k ≠ gb) (.slice (some ⟨g, 0, none⟩) l.length c) l := Kd.R_drew (Kd.R_drew (Kd.R_below hr hbel))
      have hb1 : w1.drew.drew.heap[gb]? = some (.cells #[.slice (some ⟨g, 0, none⟩) l.length c] 22 (0,0)) := by have h_ := blk_below hb hbel; exact h_
      have hne : g ≠ gb := Ne.symm (blk_ne hb hgc (by decide))
      have hB1 : Below base w w1.drew.drew := ((hbel.mono (by omega)).drew).drew
      have h1_ := (hbel.cell (World.block_lt_of_cell? w _ h1)).trans h1
      have h2_ := (hbel.cell (World.block_lt_of_cell? w _ h2)).trans h2
      have hcc : ∀ (j : Nat) (u : Value), [Value.int .i64 (rd_T29 l ((l.length : Int) - 1)).f0, Value.int .i64 (rd_T29 l ((l.length : Int) - 1)).f1][j]? = some u → w1.drew.drew.cell? ⟨g, ((l.length : Int) - 1).toNat * k29.sz + j, none⟩ = some u := by
        intro j u hj
        rw [hin]
        match j with
        | 0 => exact (Option.some.inj hj) ▸ h1_
        | 1 => exact (Option.some.inj hj) ▸ h2_
        | j + 2 => exact absurd hj (by simp)
      obtain ⟨h3, h4⟩ := Kd.R_seg hr1 ((l.length : Int) - 1) (by omega) (by omega) (c := [.int .i64 (rd_T29 l ((l.length : Int) - 1)).f0, .int .i64 (rd_T29 l ((l.length : Int) - 1)).f1]) (j := 1) (seg := [.int .i64 (if (rd_T29 l ((l.length : Int) - 1)).f1 < x1 then x1 else (rd_T29 l ((l.length : Int) - 1)).f1)]) (x' := ⟨(rd_T29 l ((l.length : Int) - 1)).f0, if (rd_T29 l ((l.length : Int) - 1)).f1 < x1 then x1 else (rd_T29 l ((l.length : Int) - 1)).f1⟩) (okp := fun _ => False) rfl hcc (Nat.le_refl 2) (k29_mkM _ _ _ _) (fun _ h => h.elim)
      · refine ⟨rfl, _, blk_far hb1 hne.symm _, ?_, ?_⟩
        · unfold span_NormAdd.f
          rw [if_pos ⟨hl, hx⟩]
          rw [hm] at h3 ⊢
          rw [hin] at h3
          rw [hin]
          exact h3
        · refine ⟨hB1.setCell hg0 _, fun k hk h1 h2 => ?_, .inl rfl⟩
          exact (Below.heap_setCell _ _ _ k (fun e => h2 (by rw [e]; rfl))).trans (hbel.block k hk)
    · have hxb : decide (x0 ≤ (rd_T29 l ((l.length : Int) - 1)).f1) = false := decide_eq_false hx
      go_enter Try.func40, Try.ntmps40
      go_wp2_with (first | ((with_reducible refine gate_dst (N := 2) rfl ?_); refine box_event ?hg (N := 2) ?hd (cs := #[.int .i64 x0, .int .i64 x1]) (t := 29) ?hr ?_; (case hd => rfl); (case hg => rfl); (case hr => first | (go_simp; done) | (go_simp; rfl)); intro gx hgx w1 hbx hbel; have hgx' : Aside0 (w.heap.size ≤ gx) := ⟨by omega⟩; clear hgx; have hv1 := (hbel.cell (World.block_lt_of_cell? w _ hv0)).trans hv0))
      refine start_ (n := 12) (S := fun w' => w'.cell? ⟨gb, 0, none⟩ = some (.slice (some ⟨g, 0, none⟩) l.length c) ∧ w'.cell? ⟨gx, 0, none⟩ = some (.int .i64 x0) ∧ w'.cell? ⟨gx, 1, none⟩ = some (.int .i64 x1) ∧ w'.cell? ⟨g, (l.length - 1) * 2, none⟩ = some (.int .i64 (rd_T29 l ((l.length : Int) - 1)).f0) ∧ w'.cell? ⟨g, (l.length - 1) * 2 + 1, none⟩ = some (.int .i64 (rd_T29 l ((l.length : Int) - 1)).f1)) (ds := []) #[false, false, false, false, false, false, false, false, false, false, false, false] (by kernel_rfl) rfl rfl ⟨hv1, (blk_cell hbx 0).trans rfl, (blk_cell hbx 1).trans rfl, ((hbel.cell (World.block_lt_of_cell? w _ h1)).trans h1), ((hbel.cell (World.block_lt_of_cell? w _ h2)).trans h2)⟩ (fun hHeld => ?_)
      refine with_tabW span_NormAdd.tab2 span_NormAdd.bits2 (fun HT_ HW_ => ?_)
      refine pure_ (i := 0) (N := some 7) (v := ?_) (a' := ?_) #[true, false, false, false, false, false, false, false, false, false, false, false] rfl rfl (any_of HT_.out (by kernel_rfl)) (fun _ _ _ h => h) (Or.inl ⟨by rfl, ?_⟩) ?_ ?_
      rotate_left
      · intro w'
        go_simp
        with_reducible rfl
      rotate_left
      · simp only [Act.put, List.setIfInBounds_toArray, List.set_cons_zero, List.set_cons_succ, i64_w, i32_w]
        rfl
      refine pure_ (i := 1) (N := some 8) (v := ?_) (a' := ?_) #[true, true, false, false, false, false, false, false, false, false, false, false] rfl rfl (any_of HT_.out (by kernel_rfl)) (fun _ _ _ h => h) (Or.inl ⟨by rfl, ?_⟩) ?_ ?_
      rotate_left
      · intro w'
        go_simp
        with_reducible rfl
      rotate_left
      · simp only [Act.put, List.setIfInBounds_toArray, List.set_cons_zero, List.set_cons_succ, i64_w, i32_w]
        rfl
      refine pure_ (i := 2) (N := some 9) (v := ?_) (a' := ?_) #[true, true, true, false, false, false, false, false, false, false, false, false] rfl rfl (any_of HT_.out (by kernel_rfl)) (fun _ _ _ h => h) (Or.inl ⟨by rfl, ?_⟩) ?_ ?_
      rotate_left
      · intro w'
        go_simp
        with_reducible rfl
      rotate_left
      · simp only [Act.put, List.setIfInBounds_toArray, List.set_cons_zero, List.set_cons_succ, i64_w, i32_w]
        rfl
      refine pure_ (i := 4) (N := some 11) (v := ?_) (a' := ?_) #[true, true, true, false, true, false, false, false, false, false, false, false] rfl rfl (any_of HT_.out (by kernel_rfl)) (fun _ _ _ h => h) (Or.inl ⟨by rfl, ?_⟩) ?_ ?_
      rotate_left
      · intro w'
        go_simp
        with_reducible rfl
      rotate_left
      · simp only [Act.put, List.setIfInBounds_toArray, List.set_cons_zero, List.set_cons_succ, i64_w, i32_w]
        rfl
      refine pure_ (i := 8) (N := some 15) (v := ?_) (a' := ?_) #[true, true, true, false, true, false, false, false, true, false, false, false] rfl rfl (any_of HT_.out (by kernel_rfl)) (fun _ _ _ h => h) (Or.inl ⟨by rfl, ?_⟩) ?_ ?_
      rotate_left
      · intro w'
        go_simp
        with_reducible rfl
      rotate_left
      · simp only [Act.put, List.setIfInBounds_toArray, List.set_cons_zero, List.set_cons_succ, i64_w, i32_w]
        rfl
      refine take_ (i := 3) (N := some 10) (v := ?_) (a' := ?_) #[true, true, true, true, true, false, false, false, true, false, false, false] rfl rfl (take_ofW HT_.out HW_.out (by kernel_rfl)) (fun _ _ _ h => h) (Or.inl ⟨by rfl, ?_⟩) hHeld ?_ ?_
      rotate_left
      · rintro w' ⟨s0, s1, s2, s3, s4⟩
        go_simp
        with_reducible rfl
      rotate_left
      · simp only [Act.put, List.setIfInBounds_toArray, List.set_cons_zero, List.set_cons_succ, i64_w, i32_w]
        rfl
      refine pure_ (i := 5) (N := some 12) (v := ?_) (a' := ?_) #[true, true, true, true, true, true, false, false, true, false, false, false] rfl rfl (any_of HT_.out (by kernel_rfl)) (fun _ _ _ h => h) (Or.inl ⟨by rfl, ?_⟩) ?_ ?_
      rotate_left
      · intro w'
        go_simp
        with_reducible rfl
      rotate_left
      · simp only [Act.put, List.setIfInBounds_toArray, List.set_cons_zero, List.set_cons_succ, i64_w, i32_w]
        rfl
      refine pure_ (i := 6) (N := some 13) (v := ?_) (a' := ?_) #[true, true, true, true, true, true, true, false, true, false, false, false] rfl rfl (any_of HT_.out (by kernel_rfl)) (fun _ _ _ h => h) (Or.inl ⟨by rfl, ?_⟩) ?_ ?_
      rotate_left
      · intro w'
        go_simp
        with_reducible rfl
      rotate_left
      · simp only [Act.put, List.setIfInBounds_toArray, List.set_cons_zero, List.set_cons_succ, i64_w, i32_w]
        rfl
      refine take_ (i := 7) (N := some 14) (v := ?_) (a' := ?_) #[true, true, true, true, true, true, true, true, true, false, false, false] rfl rfl (take_ofW HT_.out HW_.out (by kernel_rfl)) (fun _ _ _ h => h) (Or.inl ⟨by rfl, ?_⟩) hHeld ?_ ?_
      rotate_left
      · rintro w' ⟨s0, s1, s2, s3, s4⟩
        go_simp
        with_reducible rfl
      rotate_left
      · simp only [Act.put, List.setIfInBounds_toArray, List.set_cons_zero, List.set_cons_succ, i64_w, i32_w]
        rfl
      refine take_ (i := 9) (N := some 16) (v := ?_) (a' := ?_) #[true, true, true, true, true, true, true, true, true, true, false, false] rfl rfl (take_ofW HT_.out HW_.out (by kernel_rfl)) (fun _ _ _ h => h) (Or.inl ⟨by rfl, ?_⟩) hHeld ?_ ?_
      rotate_left
      · rintro w' ⟨s0, s1, s2, s3, s4⟩
        go_simp
        with_reducible rfl
      rotate_left
      · simp only [Act.put, List.setIfInBounds_toArray, List.set_cons_zero, List.set_cons_succ, i64_w, i32_w]
        rfl
      refine pure_ (i := 10) (N := some 17) (v := ?_) (a' := ?_) #[true, true, true, true, true, true, true, true, true, true, true, false] rfl rfl (any_of HT_.out (by kernel_rfl)) (fun _ _ _ h => h) (Or.inl ⟨by rfl, ?_⟩) ?_ ?_
      rotate_left
      · intro w'
        go_simp
        with_reducible rfl
      rotate_left
      · simp only [Act.put, List.setIfInBounds_toArray, List.set_cons_zero, List.set_cons_succ, i64_w, i32_w]
        rfl
      refine pure_ (i := 11) (N := some 18) (v := ?_) (a' := ?_) #[true, true, true, true, true, true, true, true, true, true, true, true] rfl rfl (any_of HT_.out (by kernel_rfl)) (fun _ _ _ h => h) (Or.inl ⟨by rfl, ?_⟩) ?_ ?_
      rotate_left
      · intro w'
        go_simp
        with_reducible rfl
      rotate_left
      · simp only [Act.put, List.setIfInBounds_toArray, List.set_cons_zero, List.set_cons_succ, i64_w, i32_w]
        rfl
      refine done_ (done_of HT_.out (by kernel_rfl)) ?_

      have hb1 : w1.drew.heap[gb]? = some (.cells #[.slice (some ⟨g, 0, none⟩) l.length c] 22 (0,0)) := by have h_ := blk_below hb hbel; exact h_
      have hbx1 : w1.drew.heap[gx]? = some (.cells #[.int .i64 x0, .int .i64 x1] 29 (0,0)) := hbx
      have hcx0 := blk_cell hbx1 0
      have hcx1 := blk_cell hbx1 1
      have hc1 := blk_cell hb1 0
      have hr1 : Kd.R k29 29 w1.drew base (fun k => k ≠ gb) (.slice (some ⟨g, 0, none⟩) l.length c) l := Kd.R_drew (Kd.R_below hr hbel)
      have hB1 : Below base w w1.drew := (hbel.mono (by omega)).drew
      have hs1 : w.heap.size ≤ w1.drew.heap.size := hbel.size
      go_wp2_with ((with_reducible refine gate_builtin (b := .append) (xs := #[.tmp 31, .tmp 33]) rfl ?_); at_builtin; refine Kd.R_append k29 (w0 := w) base rfl (.tmp 31) (.tmp 33) 22 29 (.agg #[(.int .i64 0), (.int .i64 0)]) 16 rfl Try.underlying22 info29 rfl (by decide) (by omega) (.slice (some ⟨g, 0, none⟩) l.length c) l (⟨x0, x1⟩ : S29) [.int .i64 x0, .int .i64 x1] (fun k_ => k_ ≠ gb) (fun _ => False) rfl rfl (k29_mkM _ _ _ _) (fun _ hk => hk.elim) ?aF hr1 hB1 (by omega) ?aL ?_; (case aF => exact fun k_ hk => by omega); (case aL => (try simp only [List.length_nil]); omega); intro v1 w2 ho hbb hg hat; obtain ⟨A1, c1, rfl⟩ := Kd.R_slice ho; have hb2 := blk_grown hb1 hg (Kd.R_away hr1 (fun _ hk => hk)); have hc2 := blk_cell hb2 0; have hf2 := blk_frozen hb2 0)
      first | go_end0 | ((try simp only [Exit.inBlock, Exit.then]); refine bodyPost_ret (results_none rfl _ _ _) rfl ?_)
      have ho_ := Kd.R_far (p := ⟨gb, 0, none⟩) ho (fun _ hk => hk) (.slice A1 (l ++ [(⟨x0, x1⟩ : S29)]).length c1)
      refine ⟨rfl, _, blk_set hb2 0 _, ?_, hbb.setCell hgb _, fun k hk h1 h2 => (Below.heap_setCell _ _ _ k h1).trans ((hg.block k (by omega) h2).trans (hbel.block k hk)), (by rcases hat with h | ⟨b, h1, h2⟩; (· left; cases A1 <;> exact h); (· right; refine ⟨b, ?_, by omega⟩; cases A1 <;> exact h1))⟩
      · unfold span_NormAdd.f
        rw [if_neg (by rintro ⟨_, h⟩; omega)]
        simpa only [List.length_append, List.length_cons, List.length_nil, Nat.zero_add, List.nil_append] using ho_
  · obtain rfl : l = [] := by cases l with | nil => rfl | cons _ _ => exact absurd (by simp) hl
    have hd1 : decide ((0 : Int) ≤ -1) = false := by decide
    go_enter Try.func40, Try.ntmps40
    go_wp2_with (first | ((with_reducible refine gate_dst (N := 2) rfl ?_); refine box_event ?hg (N := 2) ?hd (cs := #[.int .i64 x0, .int .i64 x1]) (t := 29) ?hr ?_; (case hd => rfl); (case hg => rfl); (case hr => first | (go_simp; done) | (go_simp; rfl)); intro gx hgx w1 hbx hbel; have hgx' : Aside0 (w.heap.size ≤ gx) := ⟨by omega⟩; clear hgx; have hv1 := (hbel.cell (World.block_lt_of_cell? w _ hv0)).trans hv0))
    refine start_ (n := 12) (S := fun w' => True) (ds := []) #[false, false, false, false, false, false, false, false, false, false, false, false] (by kernel_rfl) rfl rfl trivial (fun hHeld => ?_)
    refine with_tabW span_NormAdd.tab2 span_NormAdd.bits2 (fun HT_ HW_ => ?_)
    refine pure_ (i := 0) (N := some 7) (v := ?_) (a' := ?_) #[true, false, false, false, false, false, false, false, false, false, false, false] rfl rfl (any_of HT_.out (by kernel_rfl)) (fun _ _ _ h => h) (Or.inl ⟨by rfl, ?_⟩) ?_ ?_
    rotate_left
    · intro w'
      go_simp
      with_reducible rfl
    rotate_left
    · simp only [Act.put, List.setIfInBounds_toArray, List.set_cons_zero, List.set_cons_succ, i64_w, i32_w]
      rfl
    refine pure_ (i := 1) (N := some 8) (v := ?_) (a' := ?_) #[true, true, false, false, false, false, false, false, false, false, false, false] rfl rfl (any_of HT_.out (by kernel_rfl)) (fun _ _ _ h => h) (Or.inl ⟨by rfl, ?_⟩) ?_ ?_
    rotate_left
    · intro w'
      go_simp
      with_reducible rfl
    rotate_left
    · simp only [Act.put, List.setIfInBounds_toArray, List.set_cons_zero, List.set_cons_succ, i64_w, i32_w]
      rfl
    refine pure_ (i := 2) (N := some 9) (v := ?_) (a' := ?_) #[true, true, true, false, false, false, false, false, false, false, false, false] rfl rfl (any_of HT_.out (by kernel_rfl)) (fun _ _ _ h => h) (Or.inl ⟨by rfl, ?_⟩) ?_ ?_
    rotate_left
    · intro w'
      go_simp
      with_reducible rfl
    rotate_left
    · simp only [Act.put, List.setIfInBounds_toArray, List.set_cons_zero, List.set_cons_succ, i64_w, i32_w]
      rfl
    refine pure_ (i := 3) (N := some 10) (v := undef) (a' := ?_) #[true, true, true, true, false, false, false, false, false, false, false, false] rfl rfl (any_of HT_.out (by kernel_rfl)) (fun _ _ _ h => h) (Or.inr ⟨by rfl, rfl⟩) ?_ ?_
    rotate_left
    · simp only [Act.put, List.setIfInBounds_toArray, List.set_cons_zero, List.set_cons_succ, i64_w, i32_w]
      rfl
    refine pure_ (i := 4) (N := some 11) (v := undef) (a' := ?_) #[true, true, true, true, true, false, false, false, false, false, false, false] rfl rfl (any_of HT_.out (by kernel_rfl)) (fun _ _ _ h => h) (Or.inr ⟨by rfl, rfl⟩) ?_ ?_
    rotate_left
    · simp only [Act.put, List.setIfInBounds_toArray, List.set_cons_zero, List.set_cons_succ, i64_w, i32_w]
      rfl
    refine pure_ (i := 5) (N := some 12) (v := undef) (a' := ?_) #[true, true, true, true, true, true, false, false, false, false, false, false] rfl rfl (any_of HT_.out (by kernel_rfl)) (fun _ _ _ h => h) (Or.inr ⟨by rfl, rfl⟩) ?_ ?_
    rotate_left
    · simp only [Act.put, List.setIfInBounds_toArray, List.set_cons_zero, List.set_cons_succ, i64_w, i32_w]
      rfl
    refine pure_ (i := 6) (N := some 13) (v := undef) (a' := ?_) #[true, true, true, true, true, true, true, false, false, false, false, false] rfl rfl (any_of HT_.out (by kernel_rfl)) (fun _ _ _ h => h) (Or.inr ⟨by rfl, rfl⟩) ?_ ?_
    rotate_left
    · simp only [Act.put, List.setIfInBounds_toArray, List.set_cons_zero, List.set_cons_succ, i64_w, i32_w]
      rfl
    refine pure_ (i := 7) (N := some 14) (v := undef) (a' := ?_) #[true, true, true, true, true, true, true, true, false, false, false, false] rfl rfl (any_of HT_.out (by kernel_rfl)) (fun _ _ _ h => h) (Or.inr ⟨by rfl, rfl⟩) ?_ ?_
    rotate_left
    · simp only [Act.put, List.setIfInBounds_toArray, List.set_cons_zero, List.set_cons_succ, i64_w, i32_w]
      rfl
    refine pure_ (i := 8) (N := some 15) (v := undef) (a' := ?_) #[true, true, true, true, true, true, true, true, true, false, false, false] rfl rfl (any_of HT_.out (by kernel_rfl)) (fun _ _ _ h => h) (Or.inr ⟨by rfl, rfl⟩) ?_ ?_
    rotate_left
    · simp only [Act.put, List.setIfInBounds_toArray, List.set_cons_zero, List.set_cons_succ, i64_w, i32_w]
      rfl
    refine pure_ (i := 9) (N := some 16) (v := undef) (a' := ?_) #[true, true, true, true, true, true, true, true, true, true, false, false] rfl rfl (any_of HT_.out (by kernel_rfl)) (fun _ _ _ h => h) (Or.inr ⟨by rfl, rfl⟩) ?_ ?_
    rotate_left
    · simp only [Act.put, List.setIfInBounds_toArray, List.set_cons_zero, List.set_cons_succ, i64_w, i32_w]
      rfl
    refine pure_ (i := 10) (N := some 17) (v := undef) (a' := ?_) #[true, true, true, true, true, true, true, true, true, true, true, false] rfl rfl (any_of HT_.out (by kernel_rfl)) (fun _ _ _ h => h) (Or.inr ⟨by rfl, rfl⟩) ?_ ?_
    rotate_left
    · simp only [Act.put, List.setIfInBounds_toArray, List.set_cons_zero, List.set_cons_succ, i64_w, i32_w]
      rfl
    refine pure_ (i := 11) (N := some 18) (v := ?_) (a' := ?_) #[true, true, true, true, true, true, true, true, true, true, true, true] rfl rfl (any_of HT_.out (by kernel_rfl)) (fun _ _ _ h => h) (Or.inl ⟨by rfl, ?_⟩) ?_ ?_
    rotate_left
    · intro w'
      go_simp
      with_reducible rfl
    rotate_left
    · simp only [Act.put, List.setIfInBounds_toArray, List.set_cons_zero, List.set_cons_succ, i64_w, i32_w]
      rfl
    refine done_ (done_of HT_.out (by kernel_rfl)) ?_

    have hb1 : w1.drew.heap[gb]? = some (.cells #[.slice A 0 c] 22 (0,0)) := by have h_ := blk_below hb hbel; exact h_
    have hbx1 : w1.drew.heap[gx]? = some (.cells #[.int .i64 x0, .int .i64 x1] 29 (0,0)) := hbx
    have hcx0 := blk_cell hbx1 0
    have hcx1 := blk_cell hbx1 1
    have hc1 := blk_cell hb1 0
    have hr1 : Kd.R k29 29 w1.drew base (fun k => k ≠ gb) (.slice A 0 c) [] := Kd.R_drew (Kd.R_below hr hbel)
    have hB1 : Below base w w1.drew := (hbel.mono (by omega)).drew
    have hs1 : w.heap.size ≤ w1.drew.heap.size := hbel.size
    go_wp2_with ((with_reducible refine gate_builtin (b := .append) (xs := #[.tmp 31, .tmp 33]) rfl ?_); at_builtin; refine Kd.R_append k29 (w0 := w) base rfl (.tmp 31) (.tmp 33) 22 29 (.agg #[(.int .i64 0), (.int .i64 0)]) 16 rfl Try.underlying22 info29 rfl (by decide) (by omega) (.slice A 0 c) [] (⟨x0, x1⟩ : S29) [.int .i64 x0, .int .i64 x1] (fun k_ => k_ ≠ gb) (fun _ => False) rfl rfl (k29_mkM _ _ _ _) (fun _ hk => hk.elim) ?aF hr1 hB1 (by omega) ?aL ?_; (case aF => exact fun k_ hk => by omega); (case aL => (try simp only [List.length_nil]); omega); intro v1 w2 ho hbb hg hat; obtain ⟨A1, c1, rfl⟩ := Kd.R_slice ho; have hb2 := blk_grown hb1 hg (Kd.R_away hr1 (fun _ hk => hk)); have hc2 := blk_cell hb2 0; have hf2 := blk_frozen hb2 0)
    first | go_end0 | ((try simp only [Exit.inBlock, Exit.then]); refine bodyPost_ret (results_none rfl _ _ _) rfl ?_)
    have ho_ := Kd.R_far (p := ⟨gb, 0, none⟩) ho (fun _ hk => hk) (.slice A1 ([] ++ [(⟨x0, x1⟩ : S29)]).length c1)
    refine ⟨rfl, _, blk_set hb2 0 _, ?_, hbb.setCell hgb _, fun k hk h1 h2 => (Below.heap_setCell _ _ _ k h1).trans ((hg.block k (by omega) h2).trans (hbel.block k hk)), (by rcases hat with h | ⟨b, h1, h2⟩; (· left; cases A1 <;> exact h); (· right; refine ⟨b, ?_, by omega⟩; cases A1 <;> exact h1))⟩
    · unfold span_NormAdd.f
      rw [if_neg (fun h => hl h.1)]
      simpa only [List.length_append, List.length_cons, List.length_nil, Nat.zero_add, List.nil_append] using ho_
def span_Norm.l1 : Nat → List S29 → Int → List S29 → Option (List S29)
  | 0, _, _, _ => none
  | k + 1, s, i, o => if i < (s.length : Int) then (if 0 ≤ i then (if o.length < 8796093022208 then span_Norm.l1 k s (wrap64 (i + 1)) (span_NormAdd.f o (rd_T29 s i).f0 (rd_T29 s i).f1) else none) else none) else some o
def span_Norm.l0 : Nat → List S29 → Int → List S29 → Option (List S29)
  | 0, _, _, _ => none
  | k + 1, x, i, s => if i < (x.length : Int) then (if 0 ≤ i then ((span_may.f (rd_T29 x i).f0 (rd_T29 x i).f1).bind fun t => if t = true then ((span_insert.f k s (rd_T29 x i).f0 (rd_T29 x i).f1).bind fun s1 => span_Norm.l0 k x (wrap64 (i + 1)) s1) else span_Norm.l0 k x (wrap64 (i + 1)) s) else none) else span_Norm.l1 k s 0 []
def span_Norm.f (k : Nat) (l0 : List S29) : Option (List S29) := span_Norm.l0 k l0 0 []
theorem span_Norm.mono_l1 : ∀ k, (∀ y0 y1 y2, LeO (span_Norm.l1 k y0 y1 y2) (span_Norm.l1 (k + 1) y0 y1 y2))
  | 0 => fun _ _ _ r h => by simp [span_Norm.l1] at h
  | k + 1 => by
    have ih0 := span_Norm.mono_l1 k
    intro y0 y1 y2
    unfold span_Norm.l1
    repeat' first
      | (with_reducible exact ih0 _ _ _)
      | (with_reducible exact LeO.refl _)
      | (with_reducible exact LeO.none _)
      | (with_reducible refine LeO.ite ?_ ?_)
theorem span_Norm.mono_l0 : ∀ k, (∀ y0 y1 y2, LeO (span_Norm.l0 k y0 y1 y2) (span_Norm.l0 (k + 1) y0 y1 y2))
  | 0 => fun _ _ _ r h => by simp [span_Norm.l0] at h
  | k + 1 => by
    have ih0 := span_Norm.mono_l0 k
    have ih1 := span_Norm.mono_l1 k
    intro y0 y1 y2
    unfold span_Norm.l0
    repeat' first
      | (with_reducible exact ih0 _ _ _)
      | (with_reducible exact ih1 _ _ _)
      | (with_reducible exact span_insert.mono _ _ _ _)
      | (with_reducible exact LeO.refl _)
      | (with_reducible exact LeO.none _)
      | (with_reducible refine LeO.ite ?_ ?_)
      | (with_reducible refine LeO.bind ?_ (fun _ => ?_))
theorem span_Norm.mono : ∀ a0 k, LeO (span_Norm.f k a0) (span_Norm.f (k + 1) a0) := fun a0 k => span_Norm.mono_l0 k _ _ _
set_option maxHeartbeats 8000000 in
set_option maxRecDepth 100000 in
theorem span_Norm.calls (k : Nat) (A0 : Option Addr) (c0 : Nat) (l0 : List S29) (r : List S29) (w : World) (hr0 : Kd.C k29 w A0 l0.length l0) (hc0 : l0.length ≤ c0) (h : span_Norm.f k l0 = some r) :
    Calls Try.prog 18 #[.slice A0 l0.length c0] w fun e w' => ∃ v0_ : Value, e = .returned (v0_) ∧ Kd.R k29 29 w' w.heap.size (fun _ => True) v0_ r ∧ Below w.heap.size w w' := by
  have hu29 := Try.underlying29
  have HR0 := Aside0.mk hr0
  have HC0 := Aside0.mk hc0
  clear hr0 hc0
  have HB := Aside0.mk (Below.refl w.heap.size w)
  have H' := Aside0.mk (show span_Norm.l0 k l0 0 [] = some r from h)
  clear h
  go_enter Try.func18, Try.ntmps18
  go_wp2_with (first | ((with_reducible refine gate_dst (N := 4) rfl ?_); refine box_event ?hg (N := 4) ?hd (cs := #[.slice none 0 0]) (t := 22) ?hr ?_; (case hd => rfl); (case hg => rfl); (case hr => first | (go_simp; done) | (go_simp; rfl)); intro gb hg w1 hbox hb; have n0_ := Aside0.mk (below_step HB.out hb); have GE := Aside0.mk (show w.heap.size ≤ gb from Nat.le_of_eq hg.symm); clear HB; have HB := n0_; have BK := Aside0.mk hbox; clear n0_ hb hbox hg))
  go_loopg [3, 12] k (fun kq v3 v12 w' => ∃ (s : List S29) (i : Int), v12 = .int .i64 i ∧ Aside0 (span_Norm.l0 kq l0 i s = some r) ∧ Aside0 (kq ≤ k) ∧ Aside0 (Kd.R k29 29 w' w.heap.size (fun k_ => k_ ≠ gb) v3 s) ∧ Aside0 (w'.heap[gb]? = some (.cells #[.slice none 0 0] 22 (0, 0))) ∧ Aside0 (Below w.heap.size w w'))
  case atStart => exact ⟨[], 0, (by first | rfl | (simp; done)), H', ⟨Nat.le_refl _⟩, ⟨Kd.R_nil _ _ _ _ _⟩, BK, HB⟩
  case round =>
    clear H' HB BK
    obtain ⟨s, i, rfl, HA, HK1, HO, BK, HB⟩ := hrel
    obtain ⟨As, cs, hu3⟩ := Kd.R_slice HO.out
    subst hu3
    cases gk with
    | zero => exact absurd HA.out (by simp [span_Norm.l0])
    | succ k1 =>
      have H := HA.out
      clear HA
      simp only [span_Norm.l0] at H
      by_cases c2 : i < (l0.length : Int)
      · rw [if_pos c2] at H
        have c2b := decide_eq_true c2
        by_cases c3 : 0 ≤ i
        · rw [if_pos c3] at H
          obtain ⟨t, A1, H⟩ := Option.bind_eq_some_iff.mp H
          have A1 := Aside0.mk A1
          obtain ⟨ad, e1, hx0, hx1⟩ := at_T29 HR0.out i c3 c2
          cases e1
          replace hx0 := (HB.out.cell (World.block_lt_of_cell? w _ hx0)).trans hx0
          replace hx1 := (HB.out.cell (World.block_lt_of_cell? w _ hx1)).trans hx1
          replace c3 := eq_true c3
          have c2c := eq_true c2
          clear c2
          cases t with
          | true =>
            replace H : ((span_insert.f k1 s (rd_T29 l0 i).f0 (rd_T29 l0 i).f1).bind fun s1 => span_Norm.l0 k1 l0 (wrap64 (i + 1)) s1) = some r := H
            obtain ⟨s1, A2, H⟩ := Option.bind_eq_some_iff.mp H
            have A2 := Aside0.mk A2
            have H' := Aside0.mk H
            clear H
            go_wp2_with (first | ((with_reducible refine gate_dst (N := 6) rfl ?_); refine box_event ?hg (N := 6) ?hd (cs := #[.int .i64 0, .int .i64 0]) (t := 29) ?hr ?_; (case hd => rfl); (case hg => rfl); (case hr => first | (go_simp; done) | (go_simp; rfl)); intro gx hg w7 hbox hb; have hcz0 : w7.cell? ⟨gx, 0, none⟩ = some (.int .i64 0) := (blk_cell hbox 0).trans rfl; have hcz1 : w7.cell? ⟨gx, 1, none⟩ = some (.int .i64 0) := (blk_cell hbox 1).trans rfl; have hfz0 := blk_frozen hbox 0; have hfz1 := blk_frozen hbox 1; have hlt := Aside0.mk (show w.heap.size ≤ gx by have := HB.out.size; omega); have hgne := Aside0.mk (show gb ≠ gx by have := blk_lt BK.out; omega); have BK7 := Aside0.mk (blk_below BK.out hb); have HB7 := Aside0.mk (below_step HB.out hb); have HO7 := Aside0.mk (Kd.R_below (Kd.R_elderB HO.out gx (Nat.le_of_eq hg.symm)) hb); clear BK HB; have BKx := Aside0.mk hbox; clear hbox hb hg) | ((with_reducible refine gate_callee (f := 37) rfl ?_); refine goesL_ (some 17) rfl rfl Try.func37 (by kernel_rfl) rfl #[.agg #[.int .i64 (rd_T29 l0 i).f0, .int .i64 (rd_T29 l0 i).f1]] rfl (by (try simp only [List.map_toArray, List.map_cons, List.map_nil]); first | done | rfl) ?_; (with_reducible refine (span_may.calls _ _ _ _ A1.out).mono ?_); rintro e w9 ⟨rfl, hb⟩; refine ⟨_, rfl, ?_⟩; have BK9 := Aside0.mk (blk_below (blk_far (blk_far BK7.out (p := ⟨gx, 0, none⟩) hgne.out (.int .i64 (rd_T29 l0 i).f0)) (p := ⟨gx, 1, none⟩) hgne.out (.int .i64 (rd_T29 l0 i).f1)) hb); have BKx9 := Aside0.mk (blk_below (blk_put (cs' := #[.int .i64 (rd_T29 l0 i).f0, .int .i64 (rd_T29 l0 i).f1]) (blk_put (cs' := #[.int .i64 (rd_T29 l0 i).f0, .int .i64 0]) BKx.out 0 (.int .i64 (rd_T29 l0 i).f0) rfl) 1 (.int .i64 (rd_T29 l0 i).f1) rfl) hb); have HB9 := Aside0.mk (below_step ((HB7.out.setCell (p := ⟨gx, 0, none⟩) hlt.out (.int .i64 (rd_T29 l0 i).f0)).setCell (p := ⟨gx, 1, none⟩) hlt.out (.int .i64 (rd_T29 l0 i).f1)) hb); have HO9 := Aside0.mk (Kd.R_below (Kd.R_far (p := ⟨gx, 1, none⟩) (Kd.R_far (p := ⟨gx, 0, none⟩) HO7.out (fun _ hk => hk.2) (.int .i64 (rd_T29 l0 i).f0)) (fun _ hk => hk.2) (.int .i64 (rd_T29 l0 i).f1)) hb); have hr9_0 := (blk_cell BKx9.out 0).trans rfl; have hr9_1 := (blk_cell BKx9.out 1).trans rfl; clear hb BK7 HB7 HO7) | ((with_reducible refine gate_callee (f := 39) rfl ?_); refine goesL_ (some 20) rfl rfl Try.func39 (by kernel_rfl) rfl #[.slice As s.length cs, .agg #[.int .i64 (rd_T29 l0 i).f0, .int .i64 (rd_T29 l0 i).f1]] rfl (by (try simp only [List.map_toArray, List.map_cons, List.map_nil]); first | done | rfl) ?_; (with_reducible refine (span_insert.calls k1 _ _ s _ _ s1 _ (Kd.R_reads' HO9.out).2.2 (Kd.R_reads' HO9.out).2.1 A2.out).mono ?_); rintro e w10 ⟨v10, rfl, ho, hb⟩; refine ⟨_, rfl, ?_⟩; have HO10 := Aside0.mk (Kd.R_mono (Kd.R_lower (Kd.R_newB ho (g := gb) BK9.out) HB9.out.size) (fun _ h => h.2)); have HB10 := Aside0.mk (below_step HB9.out hb); have BK10 := Aside0.mk (blk_below BK9.out hb); clear ho hb))
            go_roundg k1
            case measure => have := HK1.out; omega
            case rel => exact ⟨s1, wrap64 (i + 1), (by first | rfl | (simp; done)), H', ⟨by have := HK1.out; omega⟩, HO10, BK10, HB10⟩
          | false =>
            replace H : (span_Norm.l0 k1 l0 (wrap64 (i + 1)) s) = some r := H
            have H' := Aside0.mk H
            clear H
            go_wp2_with (first | ((with_reducible refine gate_dst (N := 6) rfl ?_); refine box_event ?hg (N := 6) ?hd (cs := #[.int .i64 0, .int .i64 0]) (t := 29) ?hr ?_; (case hd => rfl); (case hg => rfl); (case hr => first | (go_simp; done) | (go_simp; rfl)); intro gx hg w7 hbox hb; have hcz0 : w7.cell? ⟨gx, 0, none⟩ = some (.int .i64 0) := (blk_cell hbox 0).trans rfl; have hcz1 : w7.cell? ⟨gx, 1, none⟩ = some (.int .i64 0) := (blk_cell hbox 1).trans rfl; have hfz0 := blk_frozen hbox 0; have hfz1 := blk_frozen hbox 1; have hlt := Aside0.mk (show w.heap.size ≤ gx by have := HB.out.size; omega); have hgne := Aside0.mk (show gb ≠ gx by have := blk_lt BK.out; omega); have BK7 := Aside0.mk (blk_below BK.out hb); have HB7 := Aside0.mk (below_step HB.out hb); have HO7 := Aside0.mk (Kd.R_below (Kd.R_elderB HO.out gx (Nat.le_of_eq hg.symm)) hb); clear BK HB; have BKx := Aside0.mk hbox; clear hbox hb hg) | ((with_reducible refine gate_callee (f := 37) rfl ?_); refine goesL_ (some 17) rfl rfl Try.func37 (by kernel_rfl) rfl #[.agg #[.int .i64 (rd_T29 l0 i).f0, .int .i64 (rd_T29 l0 i).f1]] rfl (by (try simp only [List.map_toArray, List.map_cons, List.map_nil]); first | done | rfl) ?_; (with_reducible refine (span_may.calls _ _ _ _ A1.out).mono ?_); rintro e w9 ⟨rfl, hb⟩; refine ⟨_, rfl, ?_⟩; have BK9 := Aside0.mk (blk_below (blk_far (blk_far BK7.out (p := ⟨gx, 0, none⟩) hgne.out (.int .i64 (rd_T29 l0 i).f0)) (p := ⟨gx, 1, none⟩) hgne.out (.int .i64 (rd_T29 l0 i).f1)) hb); have BKx9 := Aside0.mk (blk_below (blk_put (cs' := #[.int .i64 (rd_T29 l0 i).f0, .int .i64 (rd_T29 l0 i).f1]) (blk_put (cs' := #[.int .i64 (rd_T29 l0 i).f0, .int .i64 0]) BKx.out 0 (.int .i64 (rd_T29 l0 i).f0) rfl) 1 (.int .i64 (rd_T29 l0 i).f1) rfl) hb); have HB9 := Aside0.mk (below_step ((HB7.out.setCell (p := ⟨gx, 0, none⟩) hlt.out (.int .i64 (rd_T29 l0 i).f0)).setCell (p := ⟨gx, 1, none⟩) hlt.out (.int .i64 (rd_T29 l0 i).f1)) hb); have HO9 := Aside0.mk (Kd.R_below (Kd.R_far (p := ⟨gx, 1, none⟩) (Kd.R_far (p := ⟨gx, 0, none⟩) HO7.out (fun _ hk => hk.2) (.int .i64 (rd_T29 l0 i).f0)) (fun _ hk => hk.2) (.int .i64 (rd_T29 l0 i).f1)) hb); have hr9_0 := (blk_cell BKx9.out 0).trans rfl; have hr9_1 := (blk_cell BKx9.out 1).trans rfl; clear hb BK7 HB7 HO7))
            go_roundg k1
            case measure => have := HK1.out; omega
            case rel => exact ⟨s, wrap64 (i + 1), (by first | rfl | (simp; done)), H', ⟨by have := HK1.out; omega⟩, ⟨Kd.R_mono HO9.out (fun _ h => h.1)⟩, BK9, HB9⟩
        · rw [if_neg c3] at H
          exact absurd H (by simp)
      · rw [if_neg c2] at H
        have c2b := decide_eq_false c2
        clear c2
        have H' := Aside0.mk H
        clear H
        have hmf : ∀ (fn : Fn) (first cap : Array Value) (w : World), (Instr.makeFunc fn first cap).run Try.prog w = .ok (.func fn first cap) w := fun _ _ _ _ => rfl
        go_wp2
        go_loopg [25] k1 (fun kq v25 w' => ∃ (i2 : Int) (o : List S29) (vo : Value), v25 = .int .i64 i2 ∧ Aside0 (span_Norm.l1 kq s i2 o = some r) ∧ Aside0 (kq ≤ k1) ∧ Aside0 (w'.heap[gb]? = some (.cells #[vo] 22 (0, 0))) ∧ Aside0 (Kd.R k29 29 w' w.heap.size (fun k_ => k_ ≠ gb) vo o) ∧ Aside0 (Kd.R k29 29 w' w.heap.size (fun k_ => k_ ≠ gb ∧ some k_ ≠ vo.ownBlock) (.slice As s.length cs) s) ∧ Aside0 (Below w.heap.size w w'))
        case atStart => exact ⟨0, [], .slice none 0 0, (by first | rfl | (simp; done)), H', ⟨Nat.le_refl _⟩, BK, ⟨Kd.R_nil _ _ _ _ _⟩, ⟨Kd.R_apart_nil HO.out⟩, HB⟩
        case round =>
          clear H' HB BK HO
          obtain ⟨i2, o, vo, rfl, HA, HK2, BK, HO, HS, HB⟩ := hrel
          obtain ⟨Ao, co, hvo⟩ := Kd.R_slice HO.out
          subst hvo
          cases gk with
          | zero => exact absurd HA.out (by simp [span_Norm.l1])
          | succ k2 =>
            have H := HA.out
            clear HA
            simp only [span_Norm.l1] at H
            have HCS := Aside0.mk (Kd.R_reads' HS.out).2.2
            by_cases c2 : i2 < (s.length : Int)
            · rw [if_pos c2] at H
              have c2d := decide_eq_true c2
              by_cases c3 : 0 ≤ i2
              · rw [if_pos c3] at H
                by_cases c4 : o.length < 8796093022208
                · rw [if_pos c4] at H
                  have H' := Aside0.mk H
                  clear H
                  have LM := Aside0.mk c4
                  clear c4
                  obtain ⟨ad, e1, hx0, hx1⟩ := at_T29 HCS.out i2 c3 c2
                  cases e1
                  replace c3 := eq_true c3
                  have c2c := eq_true c2
                  clear c2
                  go_wp2_with (first | ((with_reducible refine gate_dst (N := 9) rfl ?_); refine box_event ?hg (N := 9) ?hd (cs := #[.int .i64 0, .int .i64 0]) (t := 29) ?hr ?_; (case hd => rfl); (case hg => rfl); (case hr => first | (go_simp; done) | (go_simp; rfl)); intro gx hg w7 hbox hb; have hcz0 : w7.cell? ⟨gx, 0, none⟩ = some (.int .i64 0) := (blk_cell hbox 0).trans rfl; have hcz1 : w7.cell? ⟨gx, 1, none⟩ = some (.int .i64 0) := (blk_cell hbox 1).trans rfl; have hfz0 := blk_frozen hbox 0; have hfz1 := blk_frozen hbox 1; have hlt := Aside0.mk (show w.heap.size ≤ gx by have := HB.out.size; omega); have hgne := Aside0.mk (show gb ≠ gx by have := blk_lt BK.out; omega); have BK7 := Aside0.mk (blk_below BK.out hb); have HB7 := Aside0.mk (below_step HB.out hb); have HO7 := Aside0.mk (Kd.R_below (Kd.R_elderB HO.out gx (Nat.le_of_eq hg.symm)) hb); have HS7 := Aside0.mk (Kd.R_below (Kd.R_elderB HS.out gx (Nat.le_of_eq hg.symm)) hb); clear HO HS; clear BK HB; have BKx := Aside0.mk hbox; clear hbox hb hg) | (go_at_call 40; have BK8 := Aside0.mk (blk_far (blk_far BK7.out (p := ⟨gx, 0, none⟩) hgne.out (.int .i64 (rd_T29 s i2).f0)) (p := ⟨gx, 1, none⟩) hgne.out (.int .i64 (rd_T29 s i2).f1)); have HB8 := Aside0.mk ((HB7.out.setCell (p := ⟨gx, 0, none⟩) hlt.out (.int .i64 (rd_T29 s i2).f0)).setCell (p := ⟨gx, 1, none⟩) hlt.out (.int .i64 (rd_T29 s i2).f1)); have HO8 := Aside0.mk (Kd.R_mono (Kd.R_far (p := ⟨gx, 1, none⟩) (Kd.R_far (p := ⟨gx, 0, none⟩) HO7.out (fun _ hk => hk.2) (.int .i64 (rd_T29 s i2).f0)) (fun _ hk => hk.2) (.int .i64 (rd_T29 s i2).f1)) (fun _ hk => hk.1)); have HS8 := Aside0.mk (Kd.R_bound (Kd.R_mono (Kd.R_far (p := ⟨gx, 1, none⟩) (Kd.R_far (p := ⟨gx, 0, none⟩) HS7.out (fun _ hk => hk.2) (.int .i64 (rd_T29 s i2).f0)) (fun _ hk => hk.2) (.int .i64 (rd_T29 s i2).f1)) (fun _ hk => hk.1))); refine (span_NormAdd.calls o _ _ w.heap.size gb _ _ BK8.out GE.out HO8.out LM.out).mono ?_; rintro e w9 ⟨rfl, v9, hb9, hr9, hbel9, hk9, hat9⟩; have BK9 := Aside0.mk hb9; have HO9 := Aside0.mk hr9; have HB9 := Aside0.mk (HB8.out.trans hbel9); have HS9 := Aside0.mk (Kd.R_mono (Kd.R_step HS8.out (fun k_ hk hlt_ => hk9 k_ hlt_ hk.1.1 hk.1.2)) (ok' := fun k_ => k_ ≠ gb ∧ some k_ ≠ v9.ownBlock) (fun k_ hk => ⟨hk.1.1, by rcases hat9 with h_ | ⟨b_, h1_, h2_⟩; (· rw [h_]; exact hk.1.2); (· rw [h1_]; have := hk.2.2.1; intro e_; injection e_ with e_; omega)⟩)); clear hb9 hr9 hbel9 hk9 hat9))
                  go_roundg k2
                  case measure => have := HK2.out; omega
                  case rel => exact ⟨wrap64 (i2 + 1), _, v9, (by first | rfl | (simp; done)), H', ⟨by have := HK2.out; omega⟩, BK9, HO9, HS9, HB9⟩
                · rw [if_neg c4] at H
                  exact absurd H (by simp)
              · rw [if_neg c3] at H
                exact absurd H (by simp)
            · rw [if_neg c2] at H
              have c2d := decide_eq_false c2
              clear c2
              obtain rfl := Option.some.inj H
              have hcb := blk_cell BK.out 0
              go_wp2
              try go_ret
              exact ⟨_, rfl, Kd.R_mono HO.out (fun _ _ => trivial), HB.out⟩

/-! ### span_In: function 20 -/
def span_In.l0 : Nat → Int → List (S29) → Int → Int → Option (Bool)
  | 0, _, _, _, _ => none
  | k + 1, x1, x7, x8, x9 => if x9 < x8 then (if 0 ≤ x9 then (if x9 < (x7.length : Int) then ((span_may.f ((rd_T29 x7 x9).f0) ((rd_T29 x7 x9).f1)).bind fun t150 => (if t150 = true then (if x1 ≥ ((rd_T29 x7 x9).f0) then (if x1 < ((rd_T29 x7 x9).f1) then (some true) else (span_In.l0 k x1 x7 x8 (wrap64 (x9 + 1)))) else (span_In.l0 k x1 x7 x8 (wrap64 (x9 + 1)))) else (span_In.l0 k x1 x7 x8 (wrap64 (x9 + 1))))) else (none)) else (none)) else (some false)
def span_In.f (k : Nat) (l0 : List (S29)) (a1 : Int) : Option (Bool) := span_In.l0 k a1 l0 (l0.length : Int) 0
theorem span_In.mono_l : ∀ k, (∀ y0 y1 y2 y3, LeO (span_In.l0 k y0 y1 y2 y3) (span_In.l0 (k + 1) y0 y1 y2 y3))
  | 0 => fun _ _ _ _ r h => by simp [span_In.l0] at h
  | k + 1 => by
    have ih0 := span_In.mono_l k
    · intro y0 y1 y2 y3
      unfold span_In.l0
      repeat' first
      | (with_reducible exact ih0 _ _ _ _)
      | (with_reducible exact LeO.refl _)
      | (with_reducible exact LeO.none _)
      | (with_reducible refine LeO.ite ?_ ?_)
      | (with_reducible refine LeO.bind ?_ (fun _ => ?_))
      | exact ih0 _ _ _ _
      | exact LeO.none _
      | refine LeO.ite ?_ ?_
      | refine LeO.bind ?_ (fun _ => ?_)
theorem span_In.mono : ∀ a0 a1 k, LeO (span_In.f k a0 a1) (span_In.f (k + 1) a0 a1) := by
  intro a0 a1 k
  have ih0 := span_In.mono_l k
  unfold span_In.f
  repeat' first
      | (with_reducible exact ih0 _ _ _ _)
      | (with_reducible exact LeO.refl _)
      | (with_reducible exact LeO.none _)
      | (with_reducible refine LeO.ite ?_ ?_)
      | (with_reducible refine LeO.bind ?_ (fun _ => ?_))
      | exact ih0 _ _ _ _
      | exact LeO.none _
      | refine LeO.ite ?_ ?_
      | refine LeO.bind ?_ (fun _ => ?_)
set_option maxHeartbeats 8000000 in
set_option maxRecDepth 100000 in
theorem span_In.calls (k : Nat) (A0 : Option Addr) (c0 : Nat) (l0 : List (S29)) (a1 : Int) (r : Bool) (w : World) (hr0 : Kd.C k29 w A0 l0.length l0) (hc0 : l0.length ≤ c0) (h : span_In.f k l0 a1 = some r) :
    Calls Try.prog 20 #[.slice A0 l0.length c0, .int .i64 a1] w fun e w' => e = .returned (.bool r) ∧ Below w.heap.size w w' := by
  have hu29 := Try.underlying29
  have HR0 := Aside0.mk hr0
  have HC0 := Aside0.mk hc0
  clear hr0 hc0
  have HB := Aside0.mk (Below.refl w.heap.size w)
  have H : (span_In.l0 k a1 l0 (l0.length : Int) 0) = some r := h
  clear h
  have H' := Aside0.mk H
  clear H
  go_enter Try.func20, Try.ntmps20
  go_wp2
  go_loopg [9] k (fun kq v9 w' => ∃ (x9_1 : Int), v9 = .int .i64 x9_1 ∧ Aside0 (span_In.l0 kq a1 l0 (l0.length : Int) x9_1 = some r) ∧ Aside0 (kq ≤ k) ∧ Aside0 (Below w.heap.size w w'))
  case atStart => exact ⟨(0), (by first | rfl | (simp; done) | (simp [*]; done)), H', ⟨Nat.le_refl _⟩, ⟨by repeat (first | (with_reducible first | exact HB.out | apply below_alloc | apply pw_below_drewN | apply below_drew1) | exact HB.out)⟩⟩
  case round =>
    clear H'
    try clear c2
    try clear p2
    obtain ⟨x9_1, rfl, HA, HK1, HB⟩ := hrel
    cases gk with
    | zero => exact absurd HA.out (by simp [span_In.l0])
    | succ k1 =>
      have H := HA.out
      clear HA
      simp only [span_In.l0] at H
      by_cases c3 : x9_1 < (l0.length : Int)
      · rw [if_pos c3] at H
        have c3b0 : decide (x9_1 < (l0.length : Int)) = true := decide_eq_true c3
        clear c3
        by_cases c4 : 0 ≤ x9_1
        · rw [if_pos c4] at H
          have c4b0 : decide (0 ≤ x9_1) = true := decide_eq_true c4
          clear c4
          by_cases c5 : x9_1 < (l0.length : Int)
          · rw [if_pos c5] at H
            have c5b0 : decide (x9_1 < (l0.length : Int)) = true := decide_eq_true c5
            clear c5
            replace H := Option.bind_eq_some_iff.mp H
            obtain ⟨t150, A60, H⟩ := H
            replace H : (if t150 = true then (if a1 ≥ ((rd_T29 l0 x9_1).f0) then (if a1 < ((rd_T29 l0 x9_1).f1) then (some true) else (span_In.l0 k1 a1 l0 (l0.length : Int) (wrap64 (x9_1 + 1)))) else (span_In.l0 k1 a1 l0 (l0.length : Int) (wrap64 (x9_1 + 1)))) else (span_In.l0 k1 a1 l0 (l0.length : Int) (wrap64 (x9_1 + 1)))) = some r := H
            have A6 := Aside0.mk A60
            clear A60
            by_cases c7 : t150 = true
            · subst c7
              have H1 : (if a1 ≥ ((rd_T29 l0 x9_1).f0) then (if a1 < ((rd_T29 l0 x9_1).f1) then (some true) else (span_In.l0 k1 a1 l0 (l0.length : Int) (wrap64 (x9_1 + 1)))) else (span_In.l0 k1 a1 l0 (l0.length : Int) (wrap64 (x9_1 + 1)))) = some r := by rw [if_pos rfl] at H; exact H
              clear H
              have H := H1
              clear H1
              by_cases c8 : a1 ≥ ((rd_T29 l0 x9_1).f0)
              · rw [if_pos c8] at H
                have c8b0 : decide (((rd_T29 l0 x9_1).f0) ≤ a1) = true := decide_eq_true c8
                clear c8
                by_cases c9 : a1 < ((rd_T29 l0 x9_1).f1)
                · rw [if_pos c9] at H
                  have c9b0 : decide (a1 < ((rd_T29 l0 x9_1).f1)) = true := decide_eq_true c9
                  clear c9
                  obtain rfl := Option.some.inj H
                  have p148 : 0 ≤ (x9_1 : Int) := of_decide_eq_true (by first | (with_reducible assumption) | assumption)
                  have q148 : x9_1 < (l0.length : Int) := of_decide_eq_true (by first | (with_reducible assumption) | assumption)
                  obtain ⟨ad148, e148, hx148_0, hx148_1⟩ := at_T29 HR0.out x9_1 p148 q148
                  cases e148
                  replace hx148_0 := (HB.out.cell (World.block_lt_of_cell? w _ hx148_0)).trans hx148_0
                  replace hx148_1 := (HB.out.cell (World.block_lt_of_cell? w _ hx148_1)).trans hx148_1
                  replace p148 := eq_true p148
                  replace q148 := eq_true q148
                  go_wp2_with (first | ((with_reducible refine gate_dst (N := 6) rfl ?_); refine box_event ?hg (N := 6) ?hd (cs := #[.int .i64 0, .int .i64 0]) (t := 29) ?hr ?_; (case hd => rfl); (case hg => rfl); (case hr => first | (go_simp; done) | (go_simp; rfl)); intro gb149 hg w10 hbox hb; have n0_ := Aside0.mk (below_step (by repeat (first | (with_reducible first | exact HB.out | apply below_alloc | apply pw_below_drewN | apply below_drew1) | exact HB.out)) hb); have n1_ := Aside0.mk (hbox); have n2_ := Aside0.mk ((by rw [hg]; exact (below_size (by repeat (first | (with_reducible first | exact HB.out | apply below_alloc | apply pw_below_drewN | apply below_drew1) | exact HB.out))) : w.heap.size ≤ gb149)); have n3_ := Aside0.mk ((by rw [hg]; exact (below_size (by repeat (first | (with_reducible first | exact HB.out | apply below_alloc | apply pw_below_drewN | apply below_drew1) | exact HB.out))) : w.heap.size ≤ gb149)); clear HB; have HB := n0_; have BK149 := n1_; have GW149 := n2_; have GE149 := n3_; clear n0_ n1_ n2_ n3_; clear hb hbox hg; have hcz11_0 : w10.cell? ⟨gb149, 0, none⟩ = some (.int .i64 0) := (blk_cell BK149.out 0).trans rfl; have hcz11_1 : w10.cell? ⟨gb149, 1, none⟩ = some (.int .i64 0) := (blk_cell BK149.out 1).trans rfl; have hfz11_0 := blk_frozen BK149.out 0; have hfz11_1 := blk_frozen BK149.out 1) | ((with_reducible refine gate_callee (f := 37) rfl ?_); refine goesL_ (some 14) rfl rfl Try.func37 (by kernel_rfl) rfl #[.agg #[.int .i64 ((rd_T29 l0 x9_1).f0), .int .i64 ((rd_T29 l0 x9_1).f1)]] rfl (by (try simp only [List.map_toArray, List.map_cons, List.map_nil]); first | done | rfl | (simp only [List.length_drop, List.length_take]; rfl)) ?_; (with_reducible refine (span_may.calls ((rd_T29 l0 x9_1).f0) ((rd_T29 l0 x9_1).f1) true _ A6.out).mono ?_); rintro e w12 ⟨rfl, hb⟩; refine ⟨_, rfl, ?_⟩; have n0_ := Aside0.mk (blk_below (g := gb149) (o := .cells #[.int .i64 ((rd_T29 l0 x9_1).f0), .int .i64 ((rd_T29 l0 x9_1).f1)] 29 (0, 0)) (by (with_reducible repeat (first | refine blk_drewN ?_ _ | refine blk_drew ?_ | refine blk_alloc ?_ _)); refine blk_put (cs := #[.int .i64 ((rd_T29 l0 x9_1).f0), .int .i64 0]) ?_ 1 _ rfl; (with_reducible repeat (first | refine blk_drewN ?_ _ | refine blk_drew ?_ | refine blk_alloc ?_ _)); refine blk_put (cs := #[.int .i64 0, .int .i64 0]) ?_ 0 _ rfl; (with_reducible repeat (first | refine blk_drewN ?_ _ | refine blk_drew ?_ | refine blk_alloc ?_ _)); exact BK149.out) hb); have n1_ := Aside0.mk (below_step (by repeat (first | (with_reducible first | exact HB.out | apply below_alloc | apply pw_below_drewN | apply below_drew1 | refine below_set ?_ GE149.out) | exact HB.out)) hb); clear BK149; clear HB; have BK149 := n0_; have HB := n1_; clear n0_ n1_; (try clear hb); (try clear hb2); (try clear hk); (try clear hi); have hcz13_0 : w12.cell? ⟨gb149, 0, none⟩ = some (.int .i64 ((rd_T29 l0 x9_1).f0)) := (blk_cell BK149.out 0).trans rfl; have hcz13_1 : w12.cell? ⟨gb149, 1, none⟩ = some (.int .i64 ((rd_T29 l0 x9_1).f1)) := (blk_cell BK149.out 1).trans rfl; have hfz13_0 := blk_frozen BK149.out 0; have hfz13_1 := blk_frozen BK149.out 1))
                  go_ret
                  exact ⟨by first | rfl | (rw [HR_.out] <;> rfl) | (simp [errW_none, errW_some] <;> rfl) | (simp [*, errW_none, errW_some] <;> rfl), by repeat (first | (with_reducible first | exact HB.out | apply below_alloc | apply pw_below_drewN | apply below_drew1 | refine below_set ?_ GE149.out) | exact HB.out)⟩
                · rw [if_neg c9] at H
                  have c9b0 : decide (a1 < ((rd_T29 l0 x9_1).f1)) = false := decide_eq_false c9
                  clear c9
                  have H' := Aside0.mk H
                  clear H
                  have p148 : 0 ≤ (x9_1 : Int) := of_decide_eq_true (by first | (with_reducible assumption) | assumption)
                  have q148 : x9_1 < (l0.length : Int) := of_decide_eq_true (by first | (with_reducible assumption) | assumption)
                  obtain ⟨ad148, e148, hx148_0, hx148_1⟩ := at_T29 HR0.out x9_1 p148 q148
                  cases e148
                  replace hx148_0 := (HB.out.cell (World.block_lt_of_cell? w _ hx148_0)).trans hx148_0
                  replace hx148_1 := (HB.out.cell (World.block_lt_of_cell? w _ hx148_1)).trans hx148_1
                  replace p148 := eq_true p148
                  replace q148 := eq_true q148
                  go_wp2_with (first | ((with_reducible refine gate_dst (N := 6) rfl ?_); refine box_event ?hg (N := 6) ?hd (cs := #[.int .i64 0, .int .i64 0]) (t := 29) ?hr ?_; (case hd => rfl); (case hg => rfl); (case hr => first | (go_simp; done) | (go_simp; rfl)); intro gb149 hg w14 hbox hb; have n0_ := Aside0.mk (below_step (by repeat (first | (with_reducible first | exact HB.out | apply below_alloc | apply pw_below_drewN | apply below_drew1) | exact HB.out)) hb); have n1_ := Aside0.mk (hbox); have n2_ := Aside0.mk ((by rw [hg]; exact (below_size (by repeat (first | (with_reducible first | exact HB.out | apply below_alloc | apply pw_below_drewN | apply below_drew1) | exact HB.out))) : w.heap.size ≤ gb149)); have n3_ := Aside0.mk ((by rw [hg]; exact (below_size (by repeat (first | (with_reducible first | exact HB.out | apply below_alloc | apply pw_below_drewN | apply below_drew1) | exact HB.out))) : w.heap.size ≤ gb149)); clear HB; have HB := n0_; have BK149 := n1_; have GW149 := n2_; have GE149 := n3_; clear n0_ n1_ n2_ n3_; clear hb hbox hg; have hcz15_0 : w14.cell? ⟨gb149, 0, none⟩ = some (.int .i64 0) := (blk_cell BK149.out 0).trans rfl; have hcz15_1 : w14.cell? ⟨gb149, 1, none⟩ = some (.int .i64 0) := (blk_cell BK149.out 1).trans rfl; have hfz15_0 := blk_frozen BK149.out 0; have hfz15_1 := blk_frozen BK149.out 1) | ((with_reducible refine gate_callee (f := 37) rfl ?_); refine goesL_ (some 14) rfl rfl Try.func37 (by kernel_rfl) rfl #[.agg #[.int .i64 ((rd_T29 l0 x9_1).f0), .int .i64 ((rd_T29 l0 x9_1).f1)]] rfl (by (try simp only [List.map_toArray, List.map_cons, List.map_nil]); first | done | rfl | (simp only [List.length_drop, List.length_take]; rfl)) ?_; (with_reducible refine (span_may.calls ((rd_T29 l0 x9_1).f0) ((rd_T29 l0 x9_1).f1) true _ A6.out).mono ?_); rintro e w16 ⟨rfl, hb⟩; refine ⟨_, rfl, ?_⟩; have n0_ := Aside0.mk (blk_below (g := gb149) (o := .cells #[.int .i64 ((rd_T29 l0 x9_1).f0), .int .i64 ((rd_T29 l0 x9_1).f1)] 29 (0, 0)) (by (with_reducible repeat (first | refine blk_drewN ?_ _ | refine blk_drew ?_ | refine blk_alloc ?_ _)); refine blk_put (cs := #[.int .i64 ((rd_T29 l0 x9_1).f0), .int .i64 0]) ?_ 1 _ rfl; (with_reducible repeat (first | refine blk_drewN ?_ _ | refine blk_drew ?_ | refine blk_alloc ?_ _)); refine blk_put (cs := #[.int .i64 0, .int .i64 0]) ?_ 0 _ rfl; (with_reducible repeat (first | refine blk_drewN ?_ _ | refine blk_drew ?_ | refine blk_alloc ?_ _)); exact BK149.out) hb); have n1_ := Aside0.mk (below_step (by repeat (first | (with_reducible first | exact HB.out | apply below_alloc | apply pw_below_drewN | apply below_drew1 | refine below_set ?_ GE149.out) | exact HB.out)) hb); clear BK149; clear HB; have BK149 := n0_; have HB := n1_; clear n0_ n1_; (try clear hb); (try clear hb2); (try clear hk); (try clear hi); have hcz17_0 : w16.cell? ⟨gb149, 0, none⟩ = some (.int .i64 ((rd_T29 l0 x9_1).f0)) := (blk_cell BK149.out 0).trans rfl; have hcz17_1 : w16.cell? ⟨gb149, 1, none⟩ = some (.int .i64 ((rd_T29 l0 x9_1).f1)) := (blk_cell BK149.out 1).trans rfl; have hfz17_0 := blk_frozen BK149.out 0; have hfz17_1 := blk_frozen BK149.out 1))
                  go_roundg k1
                  case measure => have := HK1.out; omega
                  case rel => exact ⟨(wrap64 (x9_1 + 1)), (by first | rfl | (simp; done) | (simp [*]; done)), H', ⟨by have := HK1.out; omega⟩, ⟨by repeat (first | (with_reducible first | exact HB.out | apply below_alloc | apply pw_below_drewN | apply below_drew1 | refine below_set ?_ GE149.out) | exact HB.out)⟩⟩
              · rw [if_neg c8] at H
                have c8b0 : decide (((rd_T29 l0 x9_1).f0) ≤ a1) = false := decide_eq_false c8
                clear c8
                have H' := Aside0.mk H
                clear H
                have p148 : 0 ≤ (x9_1 : Int) := of_decide_eq_true (by first | (with_reducible assumption) | assumption)
                have q148 : x9_1 < (l0.length : Int) := of_decide_eq_true (by first | (with_reducible assumption) | assumption)
                obtain ⟨ad148, e148, hx148_0, hx148_1⟩ := at_T29 HR0.out x9_1 p148 q148
                cases e148
                replace hx148_0 := (HB.out.cell (World.block_lt_of_cell? w _ hx148_0)).trans hx148_0
                replace hx148_1 := (HB.out.cell (World.block_lt_of_cell? w _ hx148_1)).trans hx148_1
                replace p148 := eq_true p148
                replace q148 := eq_true q148
                go_wp2_with (first | ((with_reducible refine gate_dst (N := 6) rfl ?_); refine box_event ?hg (N := 6) ?hd (cs := #[.int .i64 0, .int .i64 0]) (t := 29) ?hr ?_; (case hd => rfl); (case hg => rfl); (case hr => first | (go_simp; done) | (go_simp; rfl)); intro gb149 hg w18 hbox hb; have n0_ := Aside0.mk (below_step (by repeat (first | (with_reducible first | exact HB.out | apply below_alloc | apply pw_below_drewN | apply below_drew1) | exact HB.out)) hb); have n1_ := Aside0.mk (hbox); have n2_ := Aside0.mk ((by rw [hg]; exact (below_size (by repeat (first | (with_reducible first | exact HB.out | apply below_alloc | apply pw_below_drewN | apply below_drew1) | exact HB.out))) : w.heap.size ≤ gb149)); have n3_ := Aside0.mk ((by rw [hg]; exact (below_size (by repeat (first | (with_reducible first | exact HB.out | apply below_alloc | apply pw_below_drewN | apply below_drew1) | exact HB.out))) : w.heap.size ≤ gb149)); clear HB; have HB := n0_; have BK149 := n1_; have GW149 := n2_; have GE149 := n3_; clear n0_ n1_ n2_ n3_; clear hb hbox hg; have hcz19_0 : w18.cell? ⟨gb149, 0, none⟩ = some (.int .i64 0) := (blk_cell BK149.out 0).trans rfl; have hcz19_1 : w18.cell? ⟨gb149, 1, none⟩ = some (.int .i64 0) := (blk_cell BK149.out 1).trans rfl; have hfz19_0 := blk_frozen BK149.out 0; have hfz19_1 := blk_frozen BK149.out 1) | ((with_reducible refine gate_callee (f := 37) rfl ?_); refine goesL_ (some 14) rfl rfl Try.func37 (by kernel_rfl) rfl #[.agg #[.int .i64 ((rd_T29 l0 x9_1).f0), .int .i64 ((rd_T29 l0 x9_1).f1)]] rfl (by (try simp only [List.map_toArray, List.map_cons, List.map_nil]); first | done | rfl | (simp only [List.length_drop, List.length_take]; rfl)) ?_; (with_reducible refine (span_may.calls ((rd_T29 l0 x9_1).f0) ((rd_T29 l0 x9_1).f1) true _ A6.out).mono ?_); rintro e w20 ⟨rfl, hb⟩; refine ⟨_, rfl, ?_⟩; have n0_ := Aside0.mk (blk_below (g := gb149) (o := .cells #[.int .i64 ((rd_T29 l0 x9_1).f0), .int .i64 ((rd_T29 l0 x9_1).f1)] 29 (0, 0)) (by (with_reducible repeat (first | refine blk_drewN ?_ _ | refine blk_drew ?_ | refine blk_alloc ?_ _)); refine blk_put (cs := #[.int .i64 ((rd_T29 l0 x9_1).f0), .int .i64 0]) ?_ 1 _ rfl; (with_reducible repeat (first | refine blk_drewN ?_ _ | refine blk_drew ?_ | refine blk_alloc ?_ _)); refine blk_put (cs := #[.int .i64 0, .int .i64 0]) ?_ 0 _ rfl; (with_reducible repeat (first | refine blk_drewN ?_ _ | refine blk_drew ?_ | refine blk_alloc ?_ _)); exact BK149.out) hb); have n1_ := Aside0.mk (below_step (by repeat (first | (with_reducible first | exact HB.out | apply below_alloc | apply pw_below_drewN | apply below_drew1 | refine below_set ?_ GE149.out) | exact HB.out)) hb); clear BK149; clear HB; have BK149 := n0_; have HB := n1_; clear n0_ n1_; (try clear hb); (try clear hb2); (try clear hk); (try clear hi); have hcz21_0 : w20.cell? ⟨gb149, 0, none⟩ = some (.int .i64 ((rd_T29 l0 x9_1).f0)) := (blk_cell BK149.out 0).trans rfl; have hcz21_1 : w20.cell? ⟨gb149, 1, none⟩ = some (.int .i64 ((rd_T29 l0 x9_1).f1)) := (blk_cell BK149.out 1).trans rfl; have hfz21_0 := blk_frozen BK149.out 0; have hfz21_1 := blk_frozen BK149.out 1))
                go_roundg k1
                case measure => have := HK1.out; omega
                case rel => exact ⟨(wrap64 (x9_1 + 1)), (by first | rfl | (simp; done) | (simp [*]; done)), H', ⟨by have := HK1.out; omega⟩, ⟨by repeat (first | (with_reducible first | exact HB.out | apply below_alloc | apply pw_below_drewN | apply below_drew1 | refine below_set ?_ GE149.out) | exact HB.out)⟩⟩
            · replace c7 := Bool.eq_false_iff.mpr c7
              subst c7
              have H1 : (span_In.l0 k1 a1 l0 (l0.length : Int) (wrap64 (x9_1 + 1))) = some r := by rw [if_neg (show ¬ (false = true) by decide)] at H; exact H
              clear H
              have H := H1
              clear H1
              have H' := Aside0.mk H
              clear H
              have p148 : 0 ≤ (x9_1 : Int) := of_decide_eq_true (by first | (with_reducible assumption) | assumption)
              have q148 : x9_1 < (l0.length : Int) := of_decide_eq_true (by first | (with_reducible assumption) | assumption)
              obtain ⟨ad148, e148, hx148_0, hx148_1⟩ := at_T29 HR0.out x9_1 p148 q148
              cases e148
              replace hx148_0 := (HB.out.cell (World.block_lt_of_cell? w _ hx148_0)).trans hx148_0
              replace hx148_1 := (HB.out.cell (World.block_lt_of_cell? w _ hx148_1)).trans hx148_1
              replace p148 := eq_true p148
              replace q148 := eq_true q148
              go_wp2_with (first | ((with_reducible refine gate_dst (N := 6) rfl ?_); refine box_event ?hg (N := 6) ?hd (cs := #[.int .i64 0, .int .i64 0]) (t := 29) ?hr ?_; (case hd => rfl); (case hg => rfl); (case hr => first | (go_simp; done) | (go_simp; rfl)); intro gb149 hg w22 hbox hb; have n0_ := Aside0.mk (below_step (by repeat (first | (with_reducible first | exact HB.out | apply below_alloc | apply pw_below_drewN | apply below_drew1) | exact HB.out)) hb); have n1_ := Aside0.mk (hbox); have n2_ := Aside0.mk ((by rw [hg]; exact (below_size (by repeat (first | (with_reducible first | exact HB.out | apply below_alloc | apply pw_below_drewN | apply below_drew1) | exact HB.out))) : w.heap.size ≤ gb149)); have n3_ := Aside0.mk ((by rw [hg]; exact (below_size (by repeat (first | (with_reducible first | exact HB.out | apply below_alloc | apply pw_below_drewN | apply below_drew1) | exact HB.out))) : w.heap.size ≤ gb149)); clear HB; have HB := n0_; have BK149 := n1_; have GW149 := n2_; have GE149 := n3_; clear n0_ n1_ n2_ n3_; clear hb hbox hg; have hcz23_0 : w22.cell? ⟨gb149, 0, none⟩ = some (.int .i64 0) := (blk_cell BK149.out 0).trans rfl; have hcz23_1 : w22.cell? ⟨gb149, 1, none⟩ = some (.int .i64 0) := (blk_cell BK149.out 1).trans rfl; have hfz23_0 := blk_frozen BK149.out 0; have hfz23_1 := blk_frozen BK149.out 1) | ((with_reducible refine gate_callee (f := 37) rfl ?_); refine goesL_ (some 14) rfl rfl Try.func37 (by kernel_rfl) rfl #[.agg #[.int .i64 ((rd_T29 l0 x9_1).f0), .int .i64 ((rd_T29 l0 x9_1).f1)]] rfl (by (try simp only [List.map_toArray, List.map_cons, List.map_nil]); first | done | rfl | (simp only [List.length_drop, List.length_take]; rfl)) ?_; (with_reducible refine (span_may.calls ((rd_T29 l0 x9_1).f0) ((rd_T29 l0 x9_1).f1) false _ A6.out).mono ?_); rintro e w24 ⟨rfl, hb⟩; refine ⟨_, rfl, ?_⟩; have n0_ := Aside0.mk (blk_below (g := gb149) (o := .cells #[.int .i64 ((rd_T29 l0 x9_1).f0), .int .i64 ((rd_T29 l0 x9_1).f1)] 29 (0, 0)) (by (with_reducible repeat (first | refine blk_drewN ?_ _ | refine blk_drew ?_ | refine blk_alloc ?_ _)); refine blk_put (cs := #[.int .i64 ((rd_T29 l0 x9_1).f0), .int .i64 0]) ?_ 1 _ rfl; (with_reducible repeat (first | refine blk_drewN ?_ _ | refine blk_drew ?_ | refine blk_alloc ?_ _)); refine blk_put (cs := #[.int .i64 0, .int .i64 0]) ?_ 0 _ rfl; (with_reducible repeat (first | refine blk_drewN ?_ _ | refine blk_drew ?_ | refine blk_alloc ?_ _)); exact BK149.out) hb); have n1_ := Aside0.mk (below_step (by repeat (first | (with_reducible first | exact HB.out | apply below_alloc | apply pw_below_drewN | apply below_drew1 | refine below_set ?_ GE149.out) | exact HB.out)) hb); clear BK149; clear HB; have BK149 := n0_; have HB := n1_; clear n0_ n1_; (try clear hb); (try clear hb2); (try clear hk); (try clear hi)))
              go_roundg k1
              case measure => have := HK1.out; omega
              case rel => exact ⟨(wrap64 (x9_1 + 1)), (by first | rfl | (simp; done) | (simp [*]; done)), H', ⟨by have := HK1.out; omega⟩, ⟨by repeat (first | (with_reducible first | exact HB.out | apply below_alloc | apply pw_below_drewN | apply below_drew1 | refine below_set ?_ GE149.out) | exact HB.out)⟩⟩
          · rw [if_neg c5] at H
            exact absurd H (by simp)
        · rw [if_neg c4] at H
          exact absurd H (by simp)
      · rw [if_neg c3] at H
        have c3b0 : decide (x9_1 < (l0.length : Int)) = false := decide_eq_false c3
        clear c3
        obtain rfl := Option.some.inj H
        go_wp2
        go_ret
        exact ⟨by first | rfl | (rw [HR_.out] <;> rfl) | (simp [errW_none, errW_some] <;> rfl) | (simp [*, errW_none, errW_some] <;> rfl), by repeat (first | (with_reducible first | exact HB.out | apply below_alloc | apply pw_below_drewN | apply below_drew1) | exact HB.out)⟩

end Go.Proofs.Ytdfokaldjfpkhaa.FSpan
