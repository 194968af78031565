-- Written by the session (wip/tools) for this claim: functions of the program as Lean functions, and their contracts.
import Derived.Test.YtdfokaldjfpkhaaFHeapx0
import Derived.Test.YtdfokaldjfpkhaaFHeapx3
namespace Go.Proofs.Ytdfokaldjfpkhaa.FHeap
open Go.RowKit Go.Proofs.YtdfokaldjfpkhaaW.PrintWords Go.Proofs.YtdfokaldjfpkhaaW.PrintLast Go.Proofs.YtdfokaldjfpkhaaW.PrintMore
attribute [local go_sem] max2_int min2_int max_two min_two max_three min_three max_four min_four   -- for this text's walks alone
set_option linter.unusedVariables false
set_option linter.unusedSimpArgs false

/-! ### heap_down: function 46 -/
-- OWN 0
def heap_downLeast.Lw (a b : S34) : Prop := a.f0 < b.f0 ∨ a.f0 = b.f0 ∧ a.f1 < b.f1
instance (a b : S34) : Decidable (heap_downLeast.Lw a b) := by unfold heap_downLeast.Lw; infer_instance
theorem heap_downLeast.low (a b : S34) : heap_lower.f a.f0 a.f1 b.f0 b.f1 = some (decide (heap_downLeast.Lw a b)) := by
  unfold heap_lower.f
  by_cases h1 : a.f0 < b.f0
  · rw [if_pos h1, decide_eq_true (show heap_downLeast.Lw a b from Or.inl h1)]
  · rw [if_neg h1]
    by_cases h2 : a.f0 = b.f0
    · rw [if_pos h2]; congr 1; apply decide_eq_decide.2
      exact ⟨fun h => Or.inr ⟨h2, h⟩, fun h => h.elim (fun h => absurd h h1) (fun h => h.2)⟩
    · rw [if_neg h2, decide_eq_false (fun h : heap_downLeast.Lw a b => h.elim h1 (fun h => h2 h.1))]
/-- The lower one of two places (k: of the row, or behind it). -/
def heap_downLeast.st (l : List S34) (o k : Int) : Int := if k < (l.length : Int) ∧ heap_downLeast.Lw (rd_T34 l k) (rd_T34 l o) then k else o
def heap_downLeast.f (l : List S34) (i : Int) : Int := heap_downLeast.st l (heap_downLeast.st l i (2 * i + 1)) (2 * i + 2)
theorem heap_downLeast.st_lt (l : List S34) (o k : Int) (ho : 0 ≤ o) (hk : 0 ≤ k) (hl : o < (l.length : Int)) : 0 ≤ heap_downLeast.st l o k ∧ heap_downLeast.st l o k < (l.length : Int) := by
  unfold heap_downLeast.st; split <;> omega
def heap_downLeast.T5 : Bool × List (List Nat × List Nat) := (true, [([], []), ([], []), ([1], [1]), ([0, 2], [0, 2]), ([3], [3]), ([4], [4]), ([4], [4]), ([5, 6, 4], [4, 5, 6]), ([7, 4], [4, 7]), ([4], [4]), ([4], [4]), ([9, 10, 4], [4, 9, 10]), ([11, 4], [4, 11]), ([8, 12, 4, 4], [4, 8, 12]), ([4, 13], [4, 13])])
def heap_downLeast.B5 : List Nat := [0, 0, 2, 7, 15, 31, 31, 127, 255, 31, 31, 1567, 3615, 8191, 16383]
theorem heap_downLeast.tab5 : rtab .any (opsOf Try.f47 5) = heap_downLeast.T5 := by kernel_rfl
theorem heap_downLeast.bits5 : waitsOk heap_downLeast.T5.2 heap_downLeast.B5 = true := by kernel_rfl
set_option maxHeartbeats 8000000 in
set_option maxRecDepth 100000 in
theorem heap_downLeast.calls (l : List S34) (i : Int) (gi gh : Nat) (A : Option Addr) (c : Nat) (w : World) (hgi : w.heap[gi]? = some (.cells #[.int .i64 i] 3 (0, 0))) (hgh : w.heap[gh]? = some (.cells #[.slice A l.length c] 32 (0, 0)))
    (hC : Kd.C k34 w A l.length l) (h0 : 0 ≤ i) (h1 : i < 1000000000000) (hlen : l.length < 1000000000000) (hil : 0 < l.length → i < (l.length : Int)) :
    Calls Try.prog 47 #[.pointer (some ⟨gi, 0, none⟩), .pointer (some ⟨gh, 0, none⟩)] w fun e w' => e = .returned (.int .i64 (heap_downLeast.f l i)) ∧ Below w.heap.size w w' := by
  have hu34 := Try.underlying34
  have HB := Aside0.mk (Below.refl w.heap.size w)
  have hci := blk_cell hgi 0
  have hch := blk_cell hgh 0
  go_enter Try.func47, Try.ntmps47
  go_wp2
  obtain ⟨k1, ek1⟩ : ∃ k1, k1 = 2 * i + 1 := ⟨_, rfl⟩
  obtain ⟨k2, ek2⟩ : ∃ k2, k2 = 2 * i + 2 := ⟨_, rfl⟩
  rw [← ek1, ← ek2]
  have hk1p : 0 ≤ k1 := by omega
  have hk2p : 0 ≤ k2 := by omega
  have hix0 : ∀ (a b : Int) (w : World), (Instr.index 63 (.agg #[.int .i64 a, .int .i64 b]) (.int .i64 0)).run Try.prog w = .ok (.int .i64 a) w := fun _ _ _ => rfl
  have hix1 : ∀ (a b : Int) (w : World), (Instr.index 63 (.agg #[.int .i64 a, .int .i64 b]) (.int .i64 1)).run Try.prog w = .ok (.int .i64 b) w := fun _ _ _ => rfl
  obtain ⟨o1, eo1⟩ : ∃ o1, o1 = heap_downLeast.st l i k1 := ⟨_, rfl⟩
  have ho1R : Aside0 (0 ≤ o1 ∧ (0 < l.length → o1 < (l.length : Int))) := ⟨by rw [eo1]; unfold heap_downLeast.st; constructor; (· split <;> omega); (· intro h; have := hil h; split <;> omega)⟩
  replace ek1 := Aside0.mk ek1
  replace ek2 := Aside0.mk ek2
  replace eo1 := Aside0.mk eo1
  go_loopg [3, 14] 3 (fun kq v3 v14 w' => ∃ (j o : Int), v14 = .int .i64 j ∧ v3 = .int .i64 o ∧ Aside0 (j = 0 ∧ o = i ∧ kq = 3 ∨ j = 1 ∧ o = o1 ∧ kq = 2 ∨ j = 2 ∧ o = heap_downLeast.st l o1 k2 ∧ kq = 1) ∧ Aside0 (0 ≤ o ∧ (0 < l.length → o < (l.length : Int))) ∧ Aside0 (Below w.heap.size w w'))
  case atStart => exact ⟨0, i, rfl, rfl, ⟨.inl ⟨rfl, rfl, rfl⟩⟩, ⟨h0, hil⟩, HB⟩
  case round =>
    clear HB hci hch
    obtain ⟨j, o, rfl, rfl, HJ, hoR, HB⟩ := hrel
    have hgh := (blk_cell (blk_below hgh HB.out) 0).trans rfl
    rcases HJ.out with ⟨rfl, hoe, rfl⟩ | ⟨rfl, hoe, rfl⟩ | ⟨rfl, hoe, rfl⟩
    · replace hoe := Aside0.mk hoe
      clear HJ
      by_cases ck : k1 < (l.length : Int)
      · obtain ⟨ad, eA, hk0, hk1⟩ := at_T34 hC (k1) (by omega) ck
        subst eA
        obtain ⟨ad', eA, ho0, ho1⟩ := at_T34 hC (o) hoR.out.1 (hoR.out.2 (by omega))
        obtain rfl : ad = ad' := by injection eA
        clear eA
        have hk0 := (HB.out.cell (World.block_lt_of_cell? w _ hk0)).trans hk0
        have hk1 := (HB.out.cell (World.block_lt_of_cell? w _ hk1)).trans hk1
        have ho0 := (HB.out.cell (World.block_lt_of_cell? w _ ho0)).trans ho0
        have ho1 := (HB.out.cell (World.block_lt_of_cell? w _ ho1)).trans ho1
        have ckb := decide_eq_true ck
        have qk0 := eq_true (show 0 ≤ k1 by omega)
        have qk1 := eq_true ck
        have qo0 := eq_true (hoR.out.1)
        have qo1 := eq_true (hoR.out.2 (by omega))
        by_cases cl : heap_downLeast.Lw (rd_T34 l (k1)) (rd_T34 l (o))
        · have hlow : Aside0 (heap_lower.f (rd_T34 l (k1)).f0 (rd_T34 l (k1)).f1 (rd_T34 l (o)).f0 (rd_T34 l (o)).f1 = some true) := ⟨by rw [heap_downLeast.low, decide_eq_true cl]⟩
          have hst : heap_downLeast.st l (o) (k1) = k1 := by unfold heap_downLeast.st; rw [if_pos ⟨ck, cl⟩]
          replace hst := Aside0.mk hst
          clear ck cl
          go_wp2
          refine start_ (n := 15) (S := fun w' => w'.cell? ⟨gh, 0, none⟩ = some (.slice (some ad) l.length c) ∧ w'.cell? (ad.add ((k1).toNat * 2)) = some (.int .i64 (rd_T34 l (k1)).f0) ∧ w'.cell? ⟨(ad.add ((k1).toNat * 2)).block, (ad.add ((k1).toNat * 2)).off + 1, none⟩ = some (.int .i64 (rd_T34 l (k1)).f1) ∧ w'.cell? (ad.add ((o).toNat * 2)) = some (.int .i64 (rd_T34 l (o)).f0) ∧ w'.cell? ⟨(ad.add ((o).toNat * 2)).block, (ad.add ((o).toNat * 2)).off + 1, none⟩ = some (.int .i64 (rd_T34 l (o)).f1)) (ds := []) #[false, false, false, false, false, false, false, false, false, false, false, false, false, false, false] (by kernel_rfl) rfl rfl ⟨hgh, hk0, hk1, ho0, ho1⟩ (fun hHeld => ?_)
          refine with_tabW heap_downLeast.tab5 heap_downLeast.bits5 (fun HT_ HW_ => ?_)
          refine pure_ (i := 0) (N := some 17) (v := ?_) (a' := ?_) #[true, false, false, false, false, false, false, false, false, false, false, false, false, false, false] rfl rfl (any_of HT_.out (by kernel_rfl)) (fun _ _ _ h => h) (Or.inl ⟨by rfl, ?_⟩) ?_ ?_
          rotate_left
          · intro w'
            go_simp
            with_reducible rfl
          rotate_left
          · simp only [Act.put, List.setIfInBounds_toArray, List.set_cons_zero, List.set_cons_succ, i64_w, i32_w]
            rfl
          refine take_ (i := 1) (N := some 18) (v := ?_) (a' := ?_) #[true, true, false, false, false, false, false, false, false, false, false, false, false, false, false] rfl rfl (take_ofW HT_.out HW_.out (by kernel_rfl)) (fun _ _ _ h => h) (Or.inl ⟨by rfl, ?_⟩) hHeld ?_ ?_
          rotate_left
          · rintro w' ⟨s0, s1, s2, s3, s4⟩
            go_simp
            with_reducible rfl
          rotate_left
          · simp only [Act.put, List.setIfInBounds_toArray, List.set_cons_zero, List.set_cons_succ, i64_w, i32_w]
            rfl
          refine pure_ (i := 2) (N := some 19) (v := ?_) (a' := ?_) #[true, true, true, false, false, false, false, false, false, false, false, false, false, false, false] rfl rfl (any_of HT_.out (by kernel_rfl)) (fun _ _ _ h => h) (Or.inl ⟨by rfl, ?_⟩) ?_ ?_
          rotate_left
          · intro w'
            go_simp
            with_reducible rfl
          rotate_left
          · simp only [Act.put, List.setIfInBounds_toArray, List.set_cons_zero, List.set_cons_succ, i64_w, i32_w]
            rfl
          refine pure_ (i := 3) (N := some 20) (v := ?_) (a' := ?_) #[true, true, true, true, false, false, false, false, false, false, false, false, false, false, false] rfl rfl (any_of HT_.out (by kernel_rfl)) (fun _ _ _ h => h) (Or.inl ⟨by rfl, ?_⟩) ?_ ?_
          rotate_left
          · intro w'
            go_simp
            with_reducible rfl
          rotate_left
          · simp only [Act.put, List.setIfInBounds_toArray, List.set_cons_zero, List.set_cons_succ, i64_w, i32_w]
            rfl
          refine pure_ (i := 4) (N := some 21) (v := ?_) (a' := ?_) #[true, true, true, true, true, false, false, false, false, false, false, false, false, false, false] rfl rfl (any_of HT_.out (by kernel_rfl)) (fun _ _ _ h => h) (Or.inl ⟨by rfl, ?_⟩) ?_ ?_
          rotate_left
          · intro w'
            go_simp
            with_reducible rfl
          rotate_left
          · simp only [Act.put, List.setIfInBounds_toArray, List.set_cons_zero, List.set_cons_succ, i64_w, i32_w]
            rfl
          refine pure_ (i := 6) (N := some 23) (v := ?_) (a' := ?_) #[true, true, true, true, true, false, true, false, false, false, false, false, false, false, false] rfl rfl (any_of HT_.out (by kernel_rfl)) (fun _ _ _ h => h) (Or.inl ⟨by rfl, ?_⟩) ?_ ?_
          rotate_left
          · intro w'
            go_simp
            with_reducible rfl
          rotate_left
          · simp only [Act.put, List.setIfInBounds_toArray, List.set_cons_zero, List.set_cons_succ, i64_w, i32_w]
            rfl
          refine pure_ (i := 10) (N := some 27) (v := ?_) (a' := ?_) #[true, true, true, true, true, false, true, false, false, false, true, false, false, false, false] rfl rfl (any_of HT_.out (by kernel_rfl)) (fun _ _ _ h => h) (Or.inl ⟨by rfl, ?_⟩) ?_ ?_
          rotate_left
          · intro w'
            go_simp
            with_reducible rfl
          rotate_left
          · simp only [Act.put, List.setIfInBounds_toArray, List.set_cons_zero, List.set_cons_succ, i64_w, i32_w]
            rfl
          refine take_ (i := 5) (N := some 22) (v := ?_) (a' := ?_) #[true, true, true, true, true, true, true, false, false, false, true, false, false, false, false] rfl rfl (take_ofW HT_.out HW_.out (by kernel_rfl)) (fun _ _ _ h => h) (Or.inl ⟨by rfl, ?_⟩) hHeld ?_ ?_
          rotate_left
          · rintro w' ⟨s0, s1, s2, s3, s4⟩
            go_simp
            with_reducible rfl
          rotate_left
          · simp only [Act.put, List.setIfInBounds_toArray, List.set_cons_zero, List.set_cons_succ, i64_w, i32_w]
            rfl
          refine pure_ (i := 7) (N := some 24) (v := ?_) (a' := ?_) #[true, true, true, true, true, true, true, true, false, false, true, false, false, false, false] rfl rfl (any_of HT_.out (by kernel_rfl)) (fun _ _ _ h => h) (Or.inl ⟨by rfl, ?_⟩) ?_ ?_
          rotate_left
          · intro w'
            go_simp
            with_reducible rfl
          rotate_left
          · simp only [Act.put, List.setIfInBounds_toArray, List.set_cons_zero, List.set_cons_succ, i64_w, i32_w]
            rfl
          refine take_ (i := 8) (N := some 25) (v := ?_) (a' := ?_) #[true, true, true, true, true, true, true, true, true, false, true, false, false, false, false] rfl rfl (take_ofW HT_.out HW_.out (by kernel_rfl)) (fun _ _ _ h => h) (Or.inl ⟨by rfl, ?_⟩) hHeld ?_ ?_
          rotate_left
          · rintro w' ⟨s0, s1, s2, s3, s4⟩
            go_simp
            with_reducible rfl
          rotate_left
          · simp only [Act.put, List.setIfInBounds_toArray, List.set_cons_zero, List.set_cons_succ, i64_w, i32_w]
            rfl
          refine take_ (i := 9) (N := some 26) (v := ?_) (a' := ?_) #[true, true, true, true, true, true, true, true, true, true, true, false, false, false, false] rfl rfl (take_ofW HT_.out HW_.out (by kernel_rfl)) (fun _ _ _ h => h) (Or.inl ⟨by rfl, ?_⟩) hHeld ?_ ?_
          rotate_left
          · rintro w' ⟨s0, s1, s2, s3, s4⟩
            go_simp
            with_reducible rfl
          rotate_left
          · simp only [Act.put, List.setIfInBounds_toArray, List.set_cons_zero, List.set_cons_succ, i64_w, i32_w]
            rfl
          refine pure_ (i := 11) (N := some 28) (v := ?_) (a' := ?_) #[true, true, true, true, true, true, true, true, true, true, true, true, false, false, false] rfl rfl (any_of HT_.out (by kernel_rfl)) (fun _ _ _ h => h) (Or.inl ⟨by rfl, ?_⟩) ?_ ?_
          rotate_left
          · intro w'
            go_simp
            with_reducible rfl
          rotate_left
          · simp only [Act.put, List.setIfInBounds_toArray, List.set_cons_zero, List.set_cons_succ, i64_w, i32_w]
            rfl
          refine take_ (i := 12) (N := some 29) (v := ?_) (a' := ?_) #[true, true, true, true, true, true, true, true, true, true, true, true, true, false, false] rfl rfl (take_ofW HT_.out HW_.out (by kernel_rfl)) (fun _ _ _ h => h) (Or.inl ⟨by rfl, ?_⟩) hHeld ?_ ?_
          rotate_left
          · rintro w' ⟨s0, s1, s2, s3, s4⟩
            go_simp
            with_reducible rfl
          rotate_left
          · simp only [Act.put, List.setIfInBounds_toArray, List.set_cons_zero, List.set_cons_succ, i64_w, i32_w]
            rfl
          refine one_ (i := 13) (N := some 30) #[true, true, true, true, true, true, true, true, true, true, true, true, true, true, false] rfl rfl (one_of HT_.out (by kernel_rfl)) (by decide) (fun K hK => ?_)
          refine goes_ Try.func44 (by kernel_rfl) rfl #[.agg #[.int .i64 (rd_T34 l (k1)).f0, .int .i64 (rd_T34 l (k1)).f1], .agg #[.int .i64 (rd_T34 l (o)).f0, .int .i64 (rd_T34 l (o)).f1]] (by rfl) rfl rfl (by simp only [List.map_toArray, List.map_cons, List.map_nil]; rfl) ?_
          with_reducible refine (heap_lower.calls _ _ _ _ _ _ hlow.out).mono ?_
          rintro e w3 ⟨rfl, hb⟩
          refine ⟨_, rfl, ?_⟩
          have HB3 := Aside0.mk (below_step (below_drew1 HB.out) hb)
          refine hK.out _ _ ⟨((hb.cell (World.block_lt_of_cell? _ _ (hHeld.1))).trans (hHeld.1)), ((hb.cell (World.block_lt_of_cell? _ _ (hHeld.2.1))).trans (hHeld.2.1)), ((hb.cell (World.block_lt_of_cell? _ _ (hHeld.2.2.1))).trans (hHeld.2.2.1)), ((hb.cell (World.block_lt_of_cell? _ _ (hHeld.2.2.2.1))).trans (hHeld.2.2.2.1)), ((hb.cell (World.block_lt_of_cell? _ _ (hHeld.2.2.2.2))).trans (hHeld.2.2.2.2))⟩ (fun hHeld => ?_)
          clear hK K
          refine norm_ (a' := ?_) ?_ ?_
          rotate_left
          · show Act.put _ (some 30) _ = _
            simp only [Act.put, List.setIfInBounds_toArray, List.set_cons_zero, List.set_cons_succ, i64_w, i32_w]
            rfl
          refine pure_ (i := 14) (N := some 31) (v := ?_) (a' := ?_) #[true, true, true, true, true, true, true, true, true, true, true, true, true, true, true] rfl rfl (any_of HT_.out (by kernel_rfl)) (fun _ _ _ h => h) (Or.inl ⟨by rfl, ?_⟩) ?_ ?_
          rotate_left
          · intro w'
            go_simp
            with_reducible rfl
          rotate_left
          · simp only [Act.put, List.setIfInBounds_toArray, List.set_cons_zero, List.set_cons_succ, i64_w, i32_w]
            rfl
          refine done_ (done_of HT_.out (by kernel_rfl)) ?_

          go_wp2
          go_roundg 2
          case measure => omega
          case rel => exact ⟨1, k1, rfl, rfl, ⟨.inr (.inl ⟨rfl, by rw [eo1.out, ← hoe.out, hst.out], rfl⟩)⟩, ⟨⟨of_eq_true qk0, fun _ => of_eq_true qk1⟩⟩, HB3⟩
        · have hlow : Aside0 (heap_lower.f (rd_T34 l (k1)).f0 (rd_T34 l (k1)).f1 (rd_T34 l (o)).f0 (rd_T34 l (o)).f1 = some false) := ⟨by rw [heap_downLeast.low, decide_eq_false cl]⟩
          have hst : heap_downLeast.st l (o) (k1) = o := by unfold heap_downLeast.st; rw [if_neg (fun h => cl h.2)]
          replace hst := Aside0.mk hst
          clear ck cl
          go_wp2
          refine start_ (n := 15) (S := fun w' => w'.cell? ⟨gh, 0, none⟩ = some (.slice (some ad) l.length c) ∧ w'.cell? (ad.add ((k1).toNat * 2)) = some (.int .i64 (rd_T34 l (k1)).f0) ∧ w'.cell? ⟨(ad.add ((k1).toNat * 2)).block, (ad.add ((k1).toNat * 2)).off + 1, none⟩ = some (.int .i64 (rd_T34 l (k1)).f1) ∧ w'.cell? (ad.add ((o).toNat * 2)) = some (.int .i64 (rd_T34 l (o)).f0) ∧ w'.cell? ⟨(ad.add ((o).toNat * 2)).block, (ad.add ((o).toNat * 2)).off + 1, none⟩ = some (.int .i64 (rd_T34 l (o)).f1)) (ds := []) #[false, false, false, false, false, false, false, false, false, false, false, false, false, false, false] (by kernel_rfl) rfl rfl ⟨hgh, hk0, hk1, ho0, ho1⟩ (fun hHeld => ?_)
          refine with_tabW heap_downLeast.tab5 heap_downLeast.bits5 (fun HT_ HW_ => ?_)
          refine pure_ (i := 0) (N := some 17) (v := ?_) (a' := ?_) #[true, false, false, false, false, false, false, false, false, false, false, false, false, false, false] rfl rfl (any_of HT_.out (by kernel_rfl)) (fun _ _ _ h => h) (Or.inl ⟨by rfl, ?_⟩) ?_ ?_
          rotate_left
          · intro w'
            go_simp
            with_reducible rfl
          rotate_left
          · simp only [Act.put, List.setIfInBounds_toArray, List.set_cons_zero, List.set_cons_succ, i64_w, i32_w]
            rfl
          refine take_ (i := 1) (N := some 18) (v := ?_) (a' := ?_) #[true, true, false, false, false, false, false, false, false, false, false, false, false, false, false] rfl rfl (take_ofW HT_.out HW_.out (by kernel_rfl)) (fun _ _ _ h => h) (Or.inl ⟨by rfl, ?_⟩) hHeld ?_ ?_
          rotate_left
          · rintro w' ⟨s0, s1, s2, s3, s4⟩
            go_simp
            with_reducible rfl
          rotate_left
          · simp only [Act.put, List.setIfInBounds_toArray, List.set_cons_zero, List.set_cons_succ, i64_w, i32_w]
            rfl
          refine pure_ (i := 2) (N := some 19) (v := ?_) (a' := ?_) #[true, true, true, false, false, false, false, false, false, false, false, false, false, false, false] rfl rfl (any_of HT_.out (by kernel_rfl)) (fun _ _ _ h => h) (Or.inl ⟨by rfl, ?_⟩) ?_ ?_
          rotate_left
          · intro w'
            go_simp
            with_reducible rfl
          rotate_left
          · simp only [Act.put, List.setIfInBounds_toArray, List.set_cons_zero, List.set_cons_succ, i64_w, i32_w]
            rfl
          refine pure_ (i := 3) (N := some 20) (v := ?_) (a' := ?_) #[true, true, true, true, false, false, false, false, false, false, false, false, false, false, false] rfl rfl (any_of HT_.out (by kernel_rfl)) (fun _ _ _ h => h) (Or.inl ⟨by rfl, ?_⟩) ?_ ?_
          rotate_left
          · intro w'
            go_simp
            with_reducible rfl
          rotate_left
          · simp only [Act.put, List.setIfInBounds_toArray, List.set_cons_zero, List.set_cons_succ, i64_w, i32_w]
            rfl
          refine pure_ (i := 4) (N := some 21) (v := ?_) (a' := ?_) #[true, true, true, true, true, false, false, false, false, false, false, false, false, false, false] rfl rfl (any_of HT_.out (by kernel_rfl)) (fun _ _ _ h => h) (Or.inl ⟨by rfl, ?_⟩) ?_ ?_
          rotate_left
          · intro w'
            go_simp
            with_reducible rfl
          rotate_left
          · simp only [Act.put, List.setIfInBounds_toArray, List.set_cons_zero, List.set_cons_succ, i64_w, i32_w]
            rfl
          refine pure_ (i := 6) (N := some 23) (v := ?_) (a' := ?_) #[true, true, true, true, true, false, true, false, false, false, false, false, false, false, false] rfl rfl (any_of HT_.out (by kernel_rfl)) (fun _ _ _ h => h) (Or.inl ⟨by rfl, ?_⟩) ?_ ?_
          rotate_left
          · intro w'
            go_simp
            with_reducible rfl
          rotate_left
          · simp only [Act.put, List.setIfInBounds_toArray, List.set_cons_zero, List.set_cons_succ, i64_w, i32_w]
            rfl
          refine pure_ (i := 10) (N := some 27) (v := ?_) (a' := ?_) #[true, true, true, true, true, false, true, false, false, false, true, false, false, false, false] rfl rfl (any_of HT_.out (by kernel_rfl)) (fun _ _ _ h => h) (Or.inl ⟨by rfl, ?_⟩) ?_ ?_
          rotate_left
          · intro w'
            go_simp
            with_reducible rfl
          rotate_left
          · simp only [Act.put, List.setIfInBounds_toArray, List.set_cons_zero, List.set_cons_succ, i64_w, i32_w]
            rfl
          refine take_ (i := 5) (N := some 22) (v := ?_) (a' := ?_) #[true, true, true, true, true, true, true, false, false, false, true, false, false, false, false] rfl rfl (take_ofW HT_.out HW_.out (by kernel_rfl)) (fun _ _ _ h => h) (Or.inl ⟨by rfl, ?_⟩) hHeld ?_ ?_
          rotate_left
          · rintro w' ⟨s0, s1, s2, s3, s4⟩
            go_simp
            with_reducible rfl
          rotate_left
          · simp only [Act.put, List.setIfInBounds_toArray, List.set_cons_zero, List.set_cons_succ, i64_w, i32_w]
            rfl
          refine pure_ (i := 7) (N := some 24) (v := ?_) (a' := ?_) #[true, true, true, true, true, true, true, true, false, false, true, false, false, false, false] rfl rfl (any_of HT_.out (by kernel_rfl)) (fun _ _ _ h => h) (Or.inl ⟨by rfl, ?_⟩) ?_ ?_
          rotate_left
          · intro w'
            go_simp
            with_reducible rfl
          rotate_left
          · simp only [Act.put, List.setIfInBounds_toArray, List.set_cons_zero, List.set_cons_succ, i64_w, i32_w]
            rfl
          refine take_ (i := 8) (N := some 25) (v := ?_) (a' := ?_) #[true, true, true, true, true, true, true, true, true, false, true, false, false, false, false] rfl rfl (take_ofW HT_.out HW_.out (by kernel_rfl)) (fun _ _ _ h => h) (Or.inl ⟨by rfl, ?_⟩) hHeld ?_ ?_
          rotate_left
          · rintro w' ⟨s0, s1, s2, s3, s4⟩
            go_simp
            with_reducible rfl
          rotate_left
          · simp only [Act.put, List.setIfInBounds_toArray, List.set_cons_zero, List.set_cons_succ, i64_w, i32_w]
            rfl
          refine take_ (i := 9) (N := some 26) (v := ?_) (a' := ?_) #[true, true, true, true, true, true, true, true, true, true, true, false, false, false, false] rfl rfl (take_ofW HT_.out HW_.out (by kernel_rfl)) (fun _ _ _ h => h) (Or.inl ⟨by rfl, ?_⟩) hHeld ?_ ?_
          rotate_left
          · rintro w' ⟨s0, s1, s2, s3, s4⟩
            go_simp
            with_reducible rfl
          rotate_left
          · simp only [Act.put, List.setIfInBounds_toArray, List.set_cons_zero, List.set_cons_succ, i64_w, i32_w]
            rfl
          refine pure_ (i := 11) (N := some 28) (v := ?_) (a' := ?_) #[true, true, true, true, true, true, true, true, true, true, true, true, false, false, false] rfl rfl (any_of HT_.out (by kernel_rfl)) (fun _ _ _ h => h) (Or.inl ⟨by rfl, ?_⟩) ?_ ?_
          rotate_left
          · intro w'
            go_simp
            with_reducible rfl
          rotate_left
          · simp only [Act.put, List.setIfInBounds_toArray, List.set_cons_zero, List.set_cons_succ, i64_w, i32_w]
            rfl
          refine take_ (i := 12) (N := some 29) (v := ?_) (a' := ?_) #[true, true, true, true, true, true, true, true, true, true, true, true, true, false, false] rfl rfl (take_ofW HT_.out HW_.out (by kernel_rfl)) (fun _ _ _ h => h) (Or.inl ⟨by rfl, ?_⟩) hHeld ?_ ?_
          rotate_left
          · rintro w' ⟨s0, s1, s2, s3, s4⟩
            go_simp
            with_reducible rfl
          rotate_left
          · simp only [Act.put, List.setIfInBounds_toArray, List.set_cons_zero, List.set_cons_succ, i64_w, i32_w]
            rfl
          refine one_ (i := 13) (N := some 30) #[true, true, true, true, true, true, true, true, true, true, true, true, true, true, false] rfl rfl (one_of HT_.out (by kernel_rfl)) (by decide) (fun K hK => ?_)
          refine goes_ Try.func44 (by kernel_rfl) rfl #[.agg #[.int .i64 (rd_T34 l (k1)).f0, .int .i64 (rd_T34 l (k1)).f1], .agg #[.int .i64 (rd_T34 l (o)).f0, .int .i64 (rd_T34 l (o)).f1]] (by rfl) rfl rfl (by simp only [List.map_toArray, List.map_cons, List.map_nil]; rfl) ?_
          with_reducible refine (heap_lower.calls _ _ _ _ _ _ hlow.out).mono ?_
          rintro e w3 ⟨rfl, hb⟩
          refine ⟨_, rfl, ?_⟩
          have HB3 := Aside0.mk (below_step (below_drew1 HB.out) hb)
          refine hK.out _ _ ⟨((hb.cell (World.block_lt_of_cell? _ _ (hHeld.1))).trans (hHeld.1)), ((hb.cell (World.block_lt_of_cell? _ _ (hHeld.2.1))).trans (hHeld.2.1)), ((hb.cell (World.block_lt_of_cell? _ _ (hHeld.2.2.1))).trans (hHeld.2.2.1)), ((hb.cell (World.block_lt_of_cell? _ _ (hHeld.2.2.2.1))).trans (hHeld.2.2.2.1)), ((hb.cell (World.block_lt_of_cell? _ _ (hHeld.2.2.2.2))).trans (hHeld.2.2.2.2))⟩ (fun hHeld => ?_)
          clear hK K
          refine norm_ (a' := ?_) ?_ ?_
          rotate_left
          · show Act.put _ (some 30) _ = _
            simp only [Act.put, List.setIfInBounds_toArray, List.set_cons_zero, List.set_cons_succ, i64_w, i32_w]
            rfl
          refine pure_ (i := 14) (N := some 31) (v := ?_) (a' := ?_) #[true, true, true, true, true, true, true, true, true, true, true, true, true, true, true] rfl rfl (any_of HT_.out (by kernel_rfl)) (fun _ _ _ h => h) (Or.inl ⟨by rfl, ?_⟩) ?_ ?_
          rotate_left
          · intro w'
            go_simp
            with_reducible rfl
          rotate_left
          · simp only [Act.put, List.setIfInBounds_toArray, List.set_cons_zero, List.set_cons_succ, i64_w, i32_w]
            rfl
          refine done_ (done_of HT_.out (by kernel_rfl)) ?_

          go_wp2
          go_roundg 2
          case measure => omega
          case rel => exact ⟨1, o, rfl, rfl, ⟨.inr (.inl ⟨rfl, by rw [eo1.out, ← hoe.out, hst.out], rfl⟩)⟩, hoR, HB3⟩
      · have hst : heap_downLeast.st l (o) (k1) = o := by unfold heap_downLeast.st; rw [if_neg (fun h => ck h.1)]
        replace hst := Aside0.mk hst
        have ckb := decide_eq_false ck
        clear ck
        go_wp2
        refine start_ (n := 15) (S := fun w' => w'.cell? ⟨gh, 0, none⟩ = some (.slice A l.length c)) (ds := []) #[false, false, false, false, false, false, false, false, false, false, false, false, false, false, false] (by kernel_rfl) rfl rfl (hgh) (fun hHeld => ?_)
        refine with_tabW heap_downLeast.tab5 heap_downLeast.bits5 (fun HT_ HW_ => ?_)
        refine pure_ (i := 0) (N := some 17) (v := ?_) (a' := ?_) #[true, false, false, false, false, false, false, false, false, false, false, false, false, false, false] rfl rfl (any_of HT_.out (by kernel_rfl)) (fun _ _ _ h => h) (Or.inl ⟨by rfl, ?_⟩) ?_ ?_
        rotate_left
        · intro w'
          go_simp
          with_reducible rfl
        rotate_left
        · simp only [Act.put, List.setIfInBounds_toArray, List.set_cons_zero, List.set_cons_succ, i64_w, i32_w]
          rfl
        refine take_ (i := 1) (N := some 18) (v := ?_) (a' := ?_) #[true, true, false, false, false, false, false, false, false, false, false, false, false, false, false] rfl rfl (take_ofW HT_.out HW_.out (by kernel_rfl)) (fun _ _ _ h => h) (Or.inl ⟨by rfl, ?_⟩) hHeld ?_ ?_
        rotate_left
        · intro w' s0
          go_simp
          with_reducible rfl
        rotate_left
        · simp only [Act.put, List.setIfInBounds_toArray, List.set_cons_zero, List.set_cons_succ, i64_w, i32_w]
          rfl
        refine pure_ (i := 2) (N := some 19) (v := ?_) (a' := ?_) #[true, true, true, false, false, false, false, false, false, false, false, false, false, false, false] rfl rfl (any_of HT_.out (by kernel_rfl)) (fun _ _ _ h => h) (Or.inl ⟨by rfl, ?_⟩) ?_ ?_
        rotate_left
        · intro w'
          go_simp
          with_reducible rfl
        rotate_left
        · simp only [Act.put, List.setIfInBounds_toArray, List.set_cons_zero, List.set_cons_succ, i64_w, i32_w]
          rfl
        refine pure_ (i := 3) (N := some 20) (v := ?_) (a' := ?_) #[true, true, true, true, false, false, false, false, false, false, false, false, false, false, false] rfl rfl (any_of HT_.out (by kernel_rfl)) (fun _ _ _ h => h) (Or.inl ⟨by rfl, ?_⟩) ?_ ?_
        rotate_left
        · intro w'
          go_simp
          with_reducible rfl
        rotate_left
        · simp only [Act.put, List.setIfInBounds_toArray, List.set_cons_zero, List.set_cons_succ, i64_w, i32_w]
          rfl
        refine pure_ (i := 4) (N := some 21) (v := ?_) (a' := ?_) #[true, true, true, true, true, false, false, false, false, false, false, false, false, false, false] rfl rfl (any_of HT_.out (by kernel_rfl)) (fun _ _ _ h => h) (Or.inl ⟨by rfl, ?_⟩) ?_ ?_
        rotate_left
        · intro w'
          go_simp
          with_reducible rfl
        rotate_left
        · simp only [Act.put, List.setIfInBounds_toArray, List.set_cons_zero, List.set_cons_succ, i64_w, i32_w]
          rfl
        refine pure_ (i := 5) (N := some 22) (v := undef) (a' := ?_) #[true, true, true, true, true, true, false, false, false, false, false, false, false, false, false] rfl rfl (any_of HT_.out (by kernel_rfl)) (fun _ _ _ h => h) (Or.inr ⟨by rfl, rfl⟩) ?_ ?_
        rotate_left
        · simp only [Act.put, List.setIfInBounds_toArray, List.set_cons_zero, List.set_cons_succ, i64_w, i32_w]
          rfl
        refine pure_ (i := 6) (N := some 23) (v := undef) (a' := ?_) #[true, true, true, true, true, true, true, false, false, false, false, false, false, false, false] rfl rfl (any_of HT_.out (by kernel_rfl)) (fun _ _ _ h => h) (Or.inr ⟨by rfl, rfl⟩) ?_ ?_
        rotate_left
        · simp only [Act.put, List.setIfInBounds_toArray, List.set_cons_zero, List.set_cons_succ, i64_w, i32_w]
          rfl
        refine pure_ (i := 7) (N := some 24) (v := undef) (a' := ?_) #[true, true, true, true, true, true, true, true, false, false, false, false, false, false, false] rfl rfl (any_of HT_.out (by kernel_rfl)) (fun _ _ _ h => h) (Or.inr ⟨by rfl, rfl⟩) ?_ ?_
        rotate_left
        · simp only [Act.put, List.setIfInBounds_toArray, List.set_cons_zero, List.set_cons_succ, i64_w, i32_w]
          rfl
        refine pure_ (i := 8) (N := some 25) (v := undef) (a' := ?_) #[true, true, true, true, true, true, true, true, true, false, false, false, false, false, false] rfl rfl (any_of HT_.out (by kernel_rfl)) (fun _ _ _ h => h) (Or.inr ⟨by rfl, rfl⟩) ?_ ?_
        rotate_left
        · simp only [Act.put, List.setIfInBounds_toArray, List.set_cons_zero, List.set_cons_succ, i64_w, i32_w]
          rfl
        refine pure_ (i := 9) (N := some 26) (v := undef) (a' := ?_) #[true, true, true, true, true, true, true, true, true, true, false, false, false, false, false] rfl rfl (any_of HT_.out (by kernel_rfl)) (fun _ _ _ h => h) (Or.inr ⟨by rfl, rfl⟩) ?_ ?_
        rotate_left
        · simp only [Act.put, List.setIfInBounds_toArray, List.set_cons_zero, List.set_cons_succ, i64_w, i32_w]
          rfl
        refine pure_ (i := 10) (N := some 27) (v := undef) (a' := ?_) #[true, true, true, true, true, true, true, true, true, true, true, false, false, false, false] rfl rfl (any_of HT_.out (by kernel_rfl)) (fun _ _ _ h => h) (Or.inr ⟨by rfl, rfl⟩) ?_ ?_
        rotate_left
        · simp only [Act.put, List.setIfInBounds_toArray, List.set_cons_zero, List.set_cons_succ, i64_w, i32_w]
          rfl
        refine pure_ (i := 11) (N := some 28) (v := undef) (a' := ?_) #[true, true, true, true, true, true, true, true, true, true, true, true, false, false, false] rfl rfl (any_of HT_.out (by kernel_rfl)) (fun _ _ _ h => h) (Or.inr ⟨by rfl, rfl⟩) ?_ ?_
        rotate_left
        · simp only [Act.put, List.setIfInBounds_toArray, List.set_cons_zero, List.set_cons_succ, i64_w, i32_w]
          rfl
        refine pure_ (i := 12) (N := some 29) (v := undef) (a' := ?_) #[true, true, true, true, true, true, true, true, true, true, true, true, true, false, false] rfl rfl (any_of HT_.out (by kernel_rfl)) (fun _ _ _ h => h) (Or.inr ⟨by rfl, rfl⟩) ?_ ?_
        rotate_left
        · simp only [Act.put, List.setIfInBounds_toArray, List.set_cons_zero, List.set_cons_succ, i64_w, i32_w]
          rfl
        refine pure_ (i := 13) (N := some 30) (v := undef) (a' := ?_) #[true, true, true, true, true, true, true, true, true, true, true, true, true, true, false] rfl rfl (any_of HT_.out (by kernel_rfl)) (fun _ _ _ h => h) (Or.inr ⟨by rfl, rfl⟩) ?_ ?_
        rotate_left
        · simp only [Act.put, List.setIfInBounds_toArray, List.set_cons_zero, List.set_cons_succ, i64_w, i32_w]
          rfl
        refine pure_ (i := 14) (N := some 31) (v := ?_) (a' := ?_) #[true, true, true, true, true, true, true, true, true, true, true, true, true, true, true] rfl rfl (any_of HT_.out (by kernel_rfl)) (fun _ _ _ h => h) (Or.inl ⟨by rfl, ?_⟩) ?_ ?_
        rotate_left
        · intro w'
          go_simp
          with_reducible rfl
        rotate_left
        · simp only [Act.put, List.setIfInBounds_toArray, List.set_cons_zero, List.set_cons_succ, i64_w, i32_w]
          rfl
        refine done_ (done_of HT_.out (by kernel_rfl)) ?_

        go_wp2
        go_roundg 2
        case measure => omega
        case rel => exact ⟨1, o, rfl, rfl, ⟨.inr (.inl ⟨rfl, by rw [eo1.out, ← hoe.out, hst.out], rfl⟩)⟩, hoR, ⟨below_drew1 HB.out⟩⟩
    · replace hoe := Aside0.mk hoe
      clear HJ
      by_cases ck : k2 < (l.length : Int)
      · obtain ⟨ad, eA, hk0, hk1⟩ := at_T34 hC (k2) (by omega) ck
        subst eA
        obtain ⟨ad', eA, ho0, ho1⟩ := at_T34 hC (o) hoR.out.1 (hoR.out.2 (by omega))
        obtain rfl : ad = ad' := by injection eA
        clear eA
        have hk0 := (HB.out.cell (World.block_lt_of_cell? w _ hk0)).trans hk0
        have hk1 := (HB.out.cell (World.block_lt_of_cell? w _ hk1)).trans hk1
        have ho0 := (HB.out.cell (World.block_lt_of_cell? w _ ho0)).trans ho0
        have ho1 := (HB.out.cell (World.block_lt_of_cell? w _ ho1)).trans ho1
        have ckb := decide_eq_true ck
        have qk0 := eq_true (show 0 ≤ k2 by omega)
        have qk1 := eq_true ck
        have qo0 := eq_true (hoR.out.1)
        have qo1 := eq_true (hoR.out.2 (by omega))
        by_cases cl : heap_downLeast.Lw (rd_T34 l (k2)) (rd_T34 l (o))
        · have hlow : Aside0 (heap_lower.f (rd_T34 l (k2)).f0 (rd_T34 l (k2)).f1 (rd_T34 l (o)).f0 (rd_T34 l (o)).f1 = some true) := ⟨by rw [heap_downLeast.low, decide_eq_true cl]⟩
          have hst : heap_downLeast.st l (o) (k2) = k2 := by unfold heap_downLeast.st; rw [if_pos ⟨ck, cl⟩]
          replace hst := Aside0.mk hst
          clear ck cl
          go_wp2
          refine start_ (n := 15) (S := fun w' => w'.cell? ⟨gh, 0, none⟩ = some (.slice (some ad) l.length c) ∧ w'.cell? (ad.add ((k2).toNat * 2)) = some (.int .i64 (rd_T34 l (k2)).f0) ∧ w'.cell? ⟨(ad.add ((k2).toNat * 2)).block, (ad.add ((k2).toNat * 2)).off + 1, none⟩ = some (.int .i64 (rd_T34 l (k2)).f1) ∧ w'.cell? (ad.add ((o).toNat * 2)) = some (.int .i64 (rd_T34 l (o)).f0) ∧ w'.cell? ⟨(ad.add ((o).toNat * 2)).block, (ad.add ((o).toNat * 2)).off + 1, none⟩ = some (.int .i64 (rd_T34 l (o)).f1)) (ds := []) #[false, false, false, false, false, false, false, false, false, false, false, false, false, false, false] (by kernel_rfl) rfl rfl ⟨hgh, hk0, hk1, ho0, ho1⟩ (fun hHeld => ?_)
          refine with_tabW heap_downLeast.tab5 heap_downLeast.bits5 (fun HT_ HW_ => ?_)
          refine pure_ (i := 0) (N := some 17) (v := ?_) (a' := ?_) #[true, false, false, false, false, false, false, false, false, false, false, false, false, false, false] rfl rfl (any_of HT_.out (by kernel_rfl)) (fun _ _ _ h => h) (Or.inl ⟨by rfl, ?_⟩) ?_ ?_
          rotate_left
          · intro w'
            go_simp
            with_reducible rfl
          rotate_left
          · simp only [Act.put, List.setIfInBounds_toArray, List.set_cons_zero, List.set_cons_succ, i64_w, i32_w]
            rfl
          refine take_ (i := 1) (N := some 18) (v := ?_) (a' := ?_) #[true, true, false, false, false, false, false, false, false, false, false, false, false, false, false] rfl rfl (take_ofW HT_.out HW_.out (by kernel_rfl)) (fun _ _ _ h => h) (Or.inl ⟨by rfl, ?_⟩) hHeld ?_ ?_
          rotate_left
          · rintro w' ⟨s0, s1, s2, s3, s4⟩
            go_simp
            with_reducible rfl
          rotate_left
          · simp only [Act.put, List.setIfInBounds_toArray, List.set_cons_zero, List.set_cons_succ, i64_w, i32_w]
            rfl
          refine pure_ (i := 2) (N := some 19) (v := ?_) (a' := ?_) #[true, true, true, false, false, false, false, false, false, false, false, false, false, false, false] rfl rfl (any_of HT_.out (by kernel_rfl)) (fun _ _ _ h => h) (Or.inl ⟨by rfl, ?_⟩) ?_ ?_
          rotate_left
          · intro w'
            go_simp
            with_reducible rfl
          rotate_left
          · simp only [Act.put, List.setIfInBounds_toArray, List.set_cons_zero, List.set_cons_succ, i64_w, i32_w]
            rfl
          refine pure_ (i := 3) (N := some 20) (v := ?_) (a' := ?_) #[true, true, true, true, false, false, false, false, false, false, false, false, false, false, false] rfl rfl (any_of HT_.out (by kernel_rfl)) (fun _ _ _ h => h) (Or.inl ⟨by rfl, ?_⟩) ?_ ?_
          rotate_left
          · intro w'
            go_simp
            with_reducible rfl
          rotate_left
          · simp only [Act.put, List.setIfInBounds_toArray, List.set_cons_zero, List.set_cons_succ, i64_w, i32_w]
            rfl
          refine pure_ (i := 4) (N := some 21) (v := ?_) (a' := ?_) #[true, true, true, true, true, false, false, false, false, false, false, false, false, false, false] rfl rfl (any_of HT_.out (by kernel_rfl)) (fun _ _ _ h => h) (Or.inl ⟨by rfl, ?_⟩) ?_ ?_
          rotate_left
          · intro w'
            go_simp
            with_reducible rfl
          rotate_left
          · simp only [Act.put, List.setIfInBounds_toArray, List.set_cons_zero, List.set_cons_succ, i64_w, i32_w]
            rfl
          refine pure_ (i := 6) (N := some 23) (v := ?_) (a' := ?_) #[true, true, true, true, true, false, true, false, false, false, false, false, false, false, false] rfl rfl (any_of HT_.out (by kernel_rfl)) (fun _ _ _ h => h) (Or.inl ⟨by rfl, ?_⟩) ?_ ?_
          rotate_left
          · intro w'
            go_simp
            with_reducible rfl
          rotate_left
          · simp only [Act.put, List.setIfInBounds_toArray, List.set_cons_zero, List.set_cons_succ, i64_w, i32_w]
            rfl
          refine pure_ (i := 10) (N := some 27) (v := ?_) (a' := ?_) #[true, true, true, true, true, false, true, false, false, false, true, false, false, false, false] rfl rfl (any_of HT_.out (by kernel_rfl)) (fun _ _ _ h => h) (Or.inl ⟨by rfl, ?_⟩) ?_ ?_
          rotate_left
          · intro w'
            go_simp
            with_reducible rfl
          rotate_left
          · simp only [Act.put, List.setIfInBounds_toArray, List.set_cons_zero, List.set_cons_succ, i64_w, i32_w]
            rfl
          refine take_ (i := 5) (N := some 22) (v := ?_) (a' := ?_) #[true, true, true, true, true, true, true, false, false, false, true, false, false, false, false] rfl rfl (take_ofW HT_.out HW_.out (by kernel_rfl)) (fun _ _ _ h => h) (Or.inl ⟨by rfl, ?_⟩) hHeld ?_ ?_
          rotate_left
          · rintro w' ⟨s0, s1, s2, s3, s4⟩
            go_simp
            with_reducible rfl
          rotate_left
          · simp only [Act.put, List.setIfInBounds_toArray, List.set_cons_zero, List.set_cons_succ, i64_w, i32_w]
            rfl
          refine pure_ (i := 7) (N := some 24) (v := ?_) (a' := ?_) #[true, true, true, true, true, true, true, true, false, false, true, false, false, false, false] rfl rfl (any_of HT_.out (by kernel_rfl)) (fun _ _ _ h => h) (Or.inl ⟨by rfl, ?_⟩) ?_ ?_
          rotate_left
          · intro w'
            go_simp
            with_reducible rfl
          rotate_left
          · simp only [Act.put, List.setIfInBounds_toArray, List.set_cons_zero, List.set_cons_succ, i64_w, i32_w]
            rfl
          refine take_ (i := 8) (N := some 25) (v := ?_) (a' := ?_) #[true, true, true, true, true, true, true, true, true, false, true, false, false, false, false] rfl rfl (take_ofW HT_.out HW_.out (by kernel_rfl)) (fun _ _ _ h => h) (Or.inl ⟨by rfl, ?_⟩) hHeld ?_ ?_
          rotate_left
          · rintro w' ⟨s0, s1, s2, s3, s4⟩
            go_simp
            with_reducible rfl
          rotate_left
          · simp only [Act.put, List.setIfInBounds_toArray, List.set_cons_zero, List.set_cons_succ, i64_w, i32_w]
            rfl
          refine take_ (i := 9) (N := some 26) (v := ?_) (a' := ?_) #[true, true, true, true, true, true, true, true, true, true, true, false, false, false, false] rfl rfl (take_ofW HT_.out HW_.out (by kernel_rfl)) (fun _ _ _ h => h) (Or.inl ⟨by rfl, ?_⟩) hHeld ?_ ?_
          rotate_left
          · rintro w' ⟨s0, s1, s2, s3, s4⟩
            go_simp
            with_reducible rfl
          rotate_left
          · simp only [Act.put, List.setIfInBounds_toArray, List.set_cons_zero, List.set_cons_succ, i64_w, i32_w]
            rfl
          refine pure_ (i := 11) (N := some 28) (v := ?_) (a' := ?_) #[true, true, true, true, true, true, true, true, true, true, true, true, false, false, false] rfl rfl (any_of HT_.out (by kernel_rfl)) (fun _ _ _ h => h) (Or.inl ⟨by rfl, ?_⟩) ?_ ?_
          rotate_left
          · intro w'
            go_simp
            with_reducible rfl
          rotate_left
          · simp only [Act.put, List.setIfInBounds_toArray, List.set_cons_zero, List.set_cons_succ, i64_w, i32_w]
            rfl
          refine take_ (i := 12) (N := some 29) (v := ?_) (a' := ?_) #[true, true, true, true, true, true, true, true, true, true, true, true, true, false, false] rfl rfl (take_ofW HT_.out HW_.out (by kernel_rfl)) (fun _ _ _ h => h) (Or.inl ⟨by rfl, ?_⟩) hHeld ?_ ?_
          rotate_left
          · rintro w' ⟨s0, s1, s2, s3, s4⟩
            go_simp
            with_reducible rfl
          rotate_left
          · simp only [Act.put, List.setIfInBounds_toArray, List.set_cons_zero, List.set_cons_succ, i64_w, i32_w]
            rfl
          refine one_ (i := 13) (N := some 30) #[true, true, true, true, true, true, true, true, true, true, true, true, true, true, false] rfl rfl (one_of HT_.out (by kernel_rfl)) (by decide) (fun K hK => ?_)
          refine goes_ Try.func44 (by kernel_rfl) rfl #[.agg #[.int .i64 (rd_T34 l (k2)).f0, .int .i64 (rd_T34 l (k2)).f1], .agg #[.int .i64 (rd_T34 l (o)).f0, .int .i64 (rd_T34 l (o)).f1]] (by rfl) rfl rfl (by simp only [List.map_toArray, List.map_cons, List.map_nil]; rfl) ?_
          with_reducible refine (heap_lower.calls _ _ _ _ _ _ hlow.out).mono ?_
          rintro e w3 ⟨rfl, hb⟩
          refine ⟨_, rfl, ?_⟩
          have HB3 := Aside0.mk (below_step (below_drew1 HB.out) hb)
          refine hK.out _ _ ⟨((hb.cell (World.block_lt_of_cell? _ _ (hHeld.1))).trans (hHeld.1)), ((hb.cell (World.block_lt_of_cell? _ _ (hHeld.2.1))).trans (hHeld.2.1)), ((hb.cell (World.block_lt_of_cell? _ _ (hHeld.2.2.1))).trans (hHeld.2.2.1)), ((hb.cell (World.block_lt_of_cell? _ _ (hHeld.2.2.2.1))).trans (hHeld.2.2.2.1)), ((hb.cell (World.block_lt_of_cell? _ _ (hHeld.2.2.2.2))).trans (hHeld.2.2.2.2))⟩ (fun hHeld => ?_)
          clear hK K
          refine norm_ (a' := ?_) ?_ ?_
          rotate_left
          · show Act.put _ (some 30) _ = _
            simp only [Act.put, List.setIfInBounds_toArray, List.set_cons_zero, List.set_cons_succ, i64_w, i32_w]
            rfl
          refine pure_ (i := 14) (N := some 31) (v := ?_) (a' := ?_) #[true, true, true, true, true, true, true, true, true, true, true, true, true, true, true] rfl rfl (any_of HT_.out (by kernel_rfl)) (fun _ _ _ h => h) (Or.inl ⟨by rfl, ?_⟩) ?_ ?_
          rotate_left
          · intro w'
            go_simp
            with_reducible rfl
          rotate_left
          · simp only [Act.put, List.setIfInBounds_toArray, List.set_cons_zero, List.set_cons_succ, i64_w, i32_w]
            rfl
          refine done_ (done_of HT_.out (by kernel_rfl)) ?_

          go_wp2
          go_roundg 1
          case measure => omega
          case rel => exact ⟨2, k2, rfl, rfl, ⟨.inr (.inr ⟨rfl, by rw [← hoe.out, hst.out], rfl⟩)⟩, ⟨⟨of_eq_true qk0, fun _ => of_eq_true qk1⟩⟩, HB3⟩
        · have hlow : Aside0 (heap_lower.f (rd_T34 l (k2)).f0 (rd_T34 l (k2)).f1 (rd_T34 l (o)).f0 (rd_T34 l (o)).f1 = some false) := ⟨by rw [heap_downLeast.low, decide_eq_false cl]⟩
          have hst : heap_downLeast.st l (o) (k2) = o := by unfold heap_downLeast.st; rw [if_neg (fun h => cl h.2)]
          replace hst := Aside0.mk hst
          clear ck cl
          go_wp2
          refine start_ (n := 15) (S := fun w' => w'.cell? ⟨gh, 0, none⟩ = some (.slice (some ad) l.length c) ∧ w'.cell? (ad.add ((k2).toNat * 2)) = some (.int .i64 (rd_T34 l (k2)).f0) ∧ w'.cell? ⟨(ad.add ((k2).toNat * 2)).block, (ad.add ((k2).toNat * 2)).off + 1, none⟩ = some (.int .i64 (rd_T34 l (k2)).f1) ∧ w'.cell? (ad.add ((o).toNat * 2)) = some (.int .i64 (rd_T34 l (o)).f0) ∧ w'.cell? ⟨(ad.add ((o).toNat * 2)).block, (ad.add ((o).toNat * 2)).off + 1, none⟩ = some (.int .i64 (rd_T34 l (o)).f1)) (ds := []) #[false, false, false, false, false, false, false, false, false, false, false, false, false, false, false] (by kernel_rfl) rfl rfl ⟨hgh, hk0, hk1, ho0, ho1⟩ (fun hHeld => ?_)
          refine with_tabW heap_downLeast.tab5 heap_downLeast.bits5 (fun HT_ HW_ => ?_)
          refine pure_ (i := 0) (N := some 17) (v := ?_) (a' := ?_) #[true, false, false, false, false, false, false, false, false, false, false, false, false, false, false] rfl rfl (any_of HT_.out (by kernel_rfl)) (fun _ _ _ h => h) (Or.inl ⟨by rfl, ?_⟩) ?_ ?_
          rotate_left
          · intro w'
            go_simp
            with_reducible rfl
          rotate_left
          · simp only [Act.put, List.setIfInBounds_toArray, List.set_cons_zero, List.set_cons_succ, i64_w, i32_w]
            rfl
          refine take_ (i := 1) (N := some 18) (v := ?_) (a' := ?_) #[true, true, false, false, false, false, false, false, false, false, false, false, false, false, false] rfl rfl (take_ofW HT_.out HW_.out (by kernel_rfl)) (fun _ _ _ h => h) (Or.inl ⟨by rfl, ?_⟩) hHeld ?_ ?_
          rotate_left
          · rintro w' ⟨s0, s1, s2, s3, s4⟩
            go_simp
            with_reducible rfl
          rotate_left
          · simp only [Act.put, List.setIfInBounds_toArray, List.set_cons_zero, List.set_cons_succ, i64_w, i32_w]
            rfl
          refine pure_ (i := 2) (N := some 19) (v := ?_) (a' := ?_) #[true, true, true, false, false, false, false, false, false, false, false, false, false, false, false] rfl rfl (any_of HT_.out (by kernel_rfl)) (fun _ _ _ h => h) (Or.inl ⟨by rfl, ?_⟩) ?_ ?_
          rotate_left
          · intro w'
            go_simp
            with_reducible rfl
          rotate_left
          · simp only [Act.put, List.setIfInBounds_toArray, List.set_cons_zero, List.set_cons_succ, i64_w, i32_w]
            rfl
          refine pure_ (i := 3) (N := some 20) (v := ?_) (a' := ?_) #[true, true, true, true, false, false, false, false, false, false, false, false, false, false, false] rfl rfl (any_of HT_.out (by kernel_rfl)) (fun _ _ _ h => h) (Or.inl ⟨by rfl, ?_⟩) ?_ ?_
          rotate_left
          · intro w'
            go_simp
            with_reducible rfl
          rotate_left
          · simp only [Act.put, List.setIfInBounds_toArray, List.set_cons_zero, List.set_cons_succ, i64_w, i32_w]
            rfl
          refine pure_ (i := 4) (N := some 21) (v := ?_) (a' := ?_) #[true, true, true, true, true, false, false, false, false, false, false, false, false, false, false] rfl rfl (any_of HT_.out (by kernel_rfl)) (fun _ _ _ h => h) (Or.inl ⟨by rfl, ?_⟩) ?_ ?_
          rotate_left
          · intro w'
            go_simp
            with_reducible rfl
          rotate_left
          · simp only [Act.put, List.setIfInBounds_toArray, List.set_cons_zero, List.set_cons_succ, i64_w, i32_w]
            rfl
          refine pure_ (i := 6) (N := some 23) (v := ?_) (a' := ?_) #[true, true, true, true, true, false, true, false, false, false, false, false, false, false, false] rfl rfl (any_of HT_.out (by kernel_rfl)) (fun _ _ _ h => h) (Or.inl ⟨by rfl, ?_⟩) ?_ ?_
          rotate_left
          · intro w'
            go_simp
            with_reducible rfl
          rotate_left
          · simp only [Act.put, List.setIfInBounds_toArray, List.set_cons_zero, List.set_cons_succ, i64_w, i32_w]
            rfl
          refine pure_ (i := 10) (N := some 27) (v := ?_) (a' := ?_) #[true, true, true, true, true, false, true, false, false, false, true, false, false, false, false] rfl rfl (any_of HT_.out (by kernel_rfl)) (fun _ _ _ h => h) (Or.inl ⟨by rfl, ?_⟩) ?_ ?_
          rotate_left
          · intro w'
            go_simp
            with_reducible rfl
          rotate_left
          · simp only [Act.put, List.setIfInBounds_toArray, List.set_cons_zero, List.set_cons_succ, i64_w, i32_w]
            rfl
          refine take_ (i := 5) (N := some 22) (v := ?_) (a' := ?_) #[true, true, true, true, true, true, true, false, false, false, true, false, false, false, false] rfl rfl (take_ofW HT_.out HW_.out (by kernel_rfl)) (fun _ _ _ h => h) (Or.inl ⟨by rfl, ?_⟩) hHeld ?_ ?_
          rotate_left
          · rintro w' ⟨s0, s1, s2, s3, s4⟩
            go_simp
            with_reducible rfl
          rotate_left
          · simp only [Act.put, List.setIfInBounds_toArray, List.set_cons_zero, List.set_cons_succ, i64_w, i32_w]
            rfl
          refine pure_ (i := 7) (N := some 24) (v := ?_) (a' := ?_) #[true, true, true, true, true, true, true, true, false, false, true, false, false, false, false] rfl rfl (any_of HT_.out (by kernel_rfl)) (fun _ _ _ h => h) (Or.inl ⟨by rfl, ?_⟩) ?_ ?_
          rotate_left
          · intro w'
            go_simp
            with_reducible rfl
          rotate_left
          · simp only [Act.put, List.setIfInBounds_toArray, List.set_cons_zero, List.set_cons_succ, i64_w, i32_w]
            rfl
          refine take_ (i := 8) (N := some 25) (v := ?_) (a' := ?_) #[true, true, true, true, true, true, true, true, true, false, true, false, false, false, false] rfl rfl (take_ofW HT_.out HW_.out (by kernel_rfl)) (fun _ _ _ h => h) (Or.inl ⟨by rfl, ?_⟩) hHeld ?_ ?_
          rotate_left
          · rintro w' ⟨s0, s1, s2, s3, s4⟩
            go_simp
            with_reducible rfl
          rotate_left
          · simp only [Act.put, List.setIfInBounds_toArray, List.set_cons_zero, List.set_cons_succ, i64_w, i32_w]
            rfl
          refine take_ (i := 9) (N := some 26) (v := ?_) (a' := ?_) #[true, true, true, true, true, true, true, true, true, true, true, false, false, false, false] rfl rfl (take_ofW HT_.out HW_.out (by kernel_rfl)) (fun _ _ _ h => h) (Or.inl ⟨by rfl, ?_⟩) hHeld ?_ ?_
          rotate_left
          · rintro w' ⟨s0, s1, s2, s3, s4⟩
            go_simp
            with_reducible rfl
          rotate_left
          · simp only [Act.put, List.setIfInBounds_toArray, List.set_cons_zero, List.set_cons_succ, i64_w, i32_w]
            rfl
          refine pure_ (i := 11) (N := some 28) (v := ?_) (a' := ?_) #[true, true, true, true, true, true, true, true, true, true, true, true, false, false, false] rfl rfl (any_of HT_.out (by kernel_rfl)) (fun _ _ _ h => h) (Or.inl ⟨by rfl, ?_⟩) ?_ ?_
          rotate_left
          · intro w'
            go_simp
            with_reducible rfl
          rotate_left
          · simp only [Act.put, List.setIfInBounds_toArray, List.set_cons_zero, List.set_cons_succ, i64_w, i32_w]
            rfl
          refine take_ (i := 12) (N := some 29) (v := ?_) (a' := ?_) #[true, true, true, true, true, true, true, true, true, true, true, true, true, false, false] rfl rfl (take_ofW HT_.out HW_.out (by kernel_rfl)) (fun _ _ _ h => h) (Or.inl ⟨by rfl, ?_⟩) hHeld ?_ ?_
          rotate_left
          · rintro w' ⟨s0, s1, s2, s3, s4⟩
            go_simp
            with_reducible rfl
          rotate_left
          · simp only [Act.put, List.setIfInBounds_toArray, List.set_cons_zero, List.set_cons_succ, i64_w, i32_w]
            rfl
          refine one_ (i := 13) (N := some 30) #[true, true, true, true, true, true, true, true, true, true, true, true, true, true, false] rfl rfl (one_of HT_.out (by kernel_rfl)) (by decide) (fun K hK => ?_)
          refine goes_ Try.func44 (by kernel_rfl) rfl #[.agg #[.int .i64 (rd_T34 l (k2)).f0, .int .i64 (rd_T34 l (k2)).f1], .agg #[.int .i64 (rd_T34 l (o)).f0, .int .i64 (rd_T34 l (o)).f1]] (by rfl) rfl rfl (by simp only [List.map_toArray, List.map_cons, List.map_nil]; rfl) ?_
          with_reducible refine (heap_lower.calls _ _ _ _ _ _ hlow.out).mono ?_
          rintro e w3 ⟨rfl, hb⟩
          refine ⟨_, rfl, ?_⟩
          have HB3 := Aside0.mk (below_step (below_drew1 HB.out) hb)
          refine hK.out _ _ ⟨((hb.cell (World.block_lt_of_cell? _ _ (hHeld.1))).trans (hHeld.1)), ((hb.cell (World.block_lt_of_cell? _ _ (hHeld.2.1))).trans (hHeld.2.1)), ((hb.cell (World.block_lt_of_cell? _ _ (hHeld.2.2.1))).trans (hHeld.2.2.1)), ((hb.cell (World.block_lt_of_cell? _ _ (hHeld.2.2.2.1))).trans (hHeld.2.2.2.1)), ((hb.cell (World.block_lt_of_cell? _ _ (hHeld.2.2.2.2))).trans (hHeld.2.2.2.2))⟩ (fun hHeld => ?_)
          clear hK K
          refine norm_ (a' := ?_) ?_ ?_
          rotate_left
          · show Act.put _ (some 30) _ = _
            simp only [Act.put, List.setIfInBounds_toArray, List.set_cons_zero, List.set_cons_succ, i64_w, i32_w]
            rfl
          refine pure_ (i := 14) (N := some 31) (v := ?_) (a' := ?_) #[true, true, true, true, true, true, true, true, true, true, true, true, true, true, true] rfl rfl (any_of HT_.out (by kernel_rfl)) (fun _ _ _ h => h) (Or.inl ⟨by rfl, ?_⟩) ?_ ?_
          rotate_left
          · intro w'
            go_simp
            with_reducible rfl
          rotate_left
          · simp only [Act.put, List.setIfInBounds_toArray, List.set_cons_zero, List.set_cons_succ, i64_w, i32_w]
            rfl
          refine done_ (done_of HT_.out (by kernel_rfl)) ?_

          go_wp2
          go_roundg 1
          case measure => omega
          case rel => exact ⟨2, o, rfl, rfl, ⟨.inr (.inr ⟨rfl, by rw [← hoe.out, hst.out], rfl⟩)⟩, hoR, HB3⟩
      · have hst : heap_downLeast.st l (o) (k2) = o := by unfold heap_downLeast.st; rw [if_neg (fun h => ck h.1)]
        replace hst := Aside0.mk hst
        have ckb := decide_eq_false ck
        clear ck
        go_wp2
        refine start_ (n := 15) (S := fun w' => w'.cell? ⟨gh, 0, none⟩ = some (.slice A l.length c)) (ds := []) #[false, false, false, false, false, false, false, false, false, false, false, false, false, false, false] (by kernel_rfl) rfl rfl (hgh) (fun hHeld => ?_)
        refine with_tabW heap_downLeast.tab5 heap_downLeast.bits5 (fun HT_ HW_ => ?_)
        refine pure_ (i := 0) (N := some 17) (v := ?_) (a' := ?_) #[true, false, false, false, false, false, false, false, false, false, false, false, false, false, false] rfl rfl (any_of HT_.out (by kernel_rfl)) (fun _ _ _ h => h) (Or.inl ⟨by rfl, ?_⟩) ?_ ?_
        rotate_left
        · intro w'
          go_simp
          with_reducible rfl
        rotate_left
        · simp only [Act.put, List.setIfInBounds_toArray, List.set_cons_zero, List.set_cons_succ, i64_w, i32_w]
          rfl
        refine take_ (i := 1) (N := some 18) (v := ?_) (a' := ?_) #[true, true, false, false, false, false, false, false, false, false, false, false, false, false, false] rfl rfl (take_ofW HT_.out HW_.out (by kernel_rfl)) (fun _ _ _ h => h) (Or.inl ⟨by rfl, ?_⟩) hHeld ?_ ?_
        rotate_left
        · intro w' s0
          go_simp
          with_reducible rfl
        rotate_left
        · simp only [Act.put, List.setIfInBounds_toArray, List.set_cons_zero, List.set_cons_succ, i64_w, i32_w]
          rfl
        refine pure_ (i := 2) (N := some 19) (v := ?_) (a' := ?_) #[true, true, true, false, false, false, false, false, false, false, false, false, false, false, false] rfl rfl (any_of HT_.out (by kernel_rfl)) (fun _ _ _ h => h) (Or.inl ⟨by rfl, ?_⟩) ?_ ?_
        rotate_left
        · intro w'
          go_simp
          with_reducible rfl
        rotate_left
        · simp only [Act.put, List.setIfInBounds_toArray, List.set_cons_zero, List.set_cons_succ, i64_w, i32_w]
          rfl
        refine pure_ (i := 3) (N := some 20) (v := ?_) (a' := ?_) #[true, true, true, true, false, false, false, false, false, false, false, false, false, false, false] rfl rfl (any_of HT_.out (by kernel_rfl)) (fun _ _ _ h => h) (Or.inl ⟨by rfl, ?_⟩) ?_ ?_
        rotate_left
        · intro w'
          go_simp
          with_reducible rfl
        rotate_left
        · simp only [Act.put, List.setIfInBounds_toArray, List.set_cons_zero, List.set_cons_succ, i64_w, i32_w]
          rfl
        refine pure_ (i := 4) (N := some 21) (v := ?_) (a' := ?_) #[true, true, true, true, true, false, false, false, false, false, false, false, false, false, false] rfl rfl (any_of HT_.out (by kernel_rfl)) (fun _ _ _ h => h) (Or.inl ⟨by rfl, ?_⟩) ?_ ?_
        rotate_left
        · intro w'
          go_simp
          with_reducible rfl
        rotate_left
        · simp only [Act.put, List.setIfInBounds_toArray, List.set_cons_zero, List.set_cons_succ, i64_w, i32_w]
          rfl
        refine pure_ (i := 5) (N := some 22) (v := undef) (a' := ?_) #[true, true, true, true, true, true, false, false, false, false, false, false, false, false, false] rfl rfl (any_of HT_.out (by kernel_rfl)) (fun _ _ _ h => h) (Or.inr ⟨by rfl, rfl⟩) ?_ ?_
        rotate_left
        · simp only [Act.put, List.setIfInBounds_toArray, List.set_cons_zero, List.set_cons_succ, i64_w, i32_w]
          rfl
        refine pure_ (i := 6) (N := some 23) (v := undef) (a' := ?_) #[true, true, true, true, true, true, true, false, false, false, false, false, false, false, false] rfl rfl (any_of HT_.out (by kernel_rfl)) (fun _ _ _ h => h) (Or.inr ⟨by rfl, rfl⟩) ?_ ?_
        rotate_left
        · simp only [Act.put, List.setIfInBounds_toArray, List.set_cons_zero, List.set_cons_succ, i64_w, i32_w]
          rfl
        refine pure_ (i := 7) (N := some 24) (v := undef) (a' := ?_) #[true, true, true, true, true, true, true, true, false, false, false, false, false, false, false] rfl rfl (any_of HT_.out (by kernel_rfl)) (fun _ _ _ h => h) (Or.inr ⟨by rfl, rfl⟩) ?_ ?_
        rotate_left
        · simp only [Act.put, List.setIfInBounds_toArray, List.set_cons_zero, List.set_cons_succ, i64_w, i32_w]
          rfl
        refine pure_ (i := 8) (N := some 25) (v := undef) (a' := ?_) #[true, true, true, true, true, true, true, true, true, false, false, false, false, false, false] rfl rfl (any_of HT_.out (by kernel_rfl)) (fun _ _ _ h => h) (Or.inr ⟨by rfl, rfl⟩) ?_ ?_
        rotate_left
        · simp only [Act.put, List.setIfInBounds_toArray, List.set_cons_zero, List.set_cons_succ, i64_w, i32_w]
          rfl
        refine pure_ (i := 9) (N := some 26) (v := undef) (a' := ?_) #[true, true, true, true, true, true, true, true, true, true, false, false, false, false, false] rfl rfl (any_of HT_.out (by kernel_rfl)) (fun _ _ _ h => h) (Or.inr ⟨by rfl, rfl⟩) ?_ ?_
        rotate_left
        · simp only [Act.put, List.setIfInBounds_toArray, List.set_cons_zero, List.set_cons_succ, i64_w, i32_w]
          rfl
        refine pure_ (i := 10) (N := some 27) (v := undef) (a' := ?_) #[true, true, true, true, true, true, true, true, true, true, true, false, false, false, false] rfl rfl (any_of HT_.out (by kernel_rfl)) (fun _ _ _ h => h) (Or.inr ⟨by rfl, rfl⟩) ?_ ?_
        rotate_left
        · simp only [Act.put, List.setIfInBounds_toArray, List.set_cons_zero, List.set_cons_succ, i64_w, i32_w]
          rfl
        refine pure_ (i := 11) (N := some 28) (v := undef) (a' := ?_) #[true, true, true, true, true, true, true, true, true, true, true, true, false, false, false] rfl rfl (any_of HT_.out (by kernel_rfl)) (fun _ _ _ h => h) (Or.inr ⟨by rfl, rfl⟩) ?_ ?_
        rotate_left
        · simp only [Act.put, List.setIfInBounds_toArray, List.set_cons_zero, List.set_cons_succ, i64_w, i32_w]
          rfl
        refine pure_ (i := 12) (N := some 29) (v := undef) (a' := ?_) #[true, true, true, true, true, true, true, true, true, true, true, true, true, false, false] rfl rfl (any_of HT_.out (by kernel_rfl)) (fun _ _ _ h => h) (Or.inr ⟨by rfl, rfl⟩) ?_ ?_
        rotate_left
        · simp only [Act.put, List.setIfInBounds_toArray, List.set_cons_zero, List.set_cons_succ, i64_w, i32_w]
          rfl
        refine pure_ (i := 13) (N := some 30) (v := undef) (a' := ?_) #[true, true, true, true, true, true, true, true, true, true, true, true, true, true, false] rfl rfl (any_of HT_.out (by kernel_rfl)) (fun _ _ _ h => h) (Or.inr ⟨by rfl, rfl⟩) ?_ ?_
        rotate_left
        · simp only [Act.put, List.setIfInBounds_toArray, List.set_cons_zero, List.set_cons_succ, i64_w, i32_w]
          rfl
        refine pure_ (i := 14) (N := some 31) (v := ?_) (a' := ?_) #[true, true, true, true, true, true, true, true, true, true, true, true, true, true, true] rfl rfl (any_of HT_.out (by kernel_rfl)) (fun _ _ _ h => h) (Or.inl ⟨by rfl, ?_⟩) ?_ ?_
        rotate_left
        · intro w'
          go_simp
          with_reducible rfl
        rotate_left
        · simp only [Act.put, List.setIfInBounds_toArray, List.set_cons_zero, List.set_cons_succ, i64_w, i32_w]
          rfl
        refine done_ (done_of HT_.out (by kernel_rfl)) ?_

        go_wp2
        go_roundg 1
        case measure => omega
        case rel => exact ⟨2, o, rfl, rfl, ⟨.inr (.inr ⟨rfl, by rw [← hoe.out, hst.out], rfl⟩)⟩, hoR, ⟨below_drew1 HB.out⟩⟩
    · replace hoe := Aside0.mk hoe
      clear HJ
      go_wp2
      go_ret
      exact ⟨by rw [heap_downLeast.f, ← ek1.out, ← ek2.out, ← eo1.out, hoe.out]; rfl, HB.out⟩
theorem heap_downLeast.ne_lt (l : List S34) (i : Int) (h0 : 0 ≤ i) (hil : 0 < l.length → i < (l.length : Int)) (h : heap_downLeast.f l i ≠ i) : 0 < l.length ∧ 0 ≤ heap_downLeast.f l i ∧ heap_downLeast.f l i < (l.length : Int) := by
  have hp : 0 < l.length := by
    rcases Nat.eq_zero_or_pos l.length with h1 | h1
    · refine absurd ?_ h
      unfold heap_downLeast.f heap_downLeast.st
      rw [if_neg (by omega), if_neg (by omega)]
    · exact h1
  have h1 := heap_downLeast.st_lt l i (2 * i + 1) h0 (by omega) (hil hp)
  exact ⟨hp, heap_downLeast.st_lt l _ (2 * i + 2) h1.1 (by omega) h1.2⟩
theorem heap_downLeast.nn (l : List S34) (i : Int) (h0 : 0 ≤ i) : 0 ≤ heap_downLeast.f l i := by
  unfold heap_downLeast.f heap_downLeast.st
  repeat' split
  all_goals omega
def heap_down.l0 : Nat → List S34 → Int → Option (List S34)
  | 0, _, _ => none
  | k + 1, l, i => if heap_downLeast.f l i = i then some l else heap_down.l0 k ((l.set i.toNat ⟨(rd_T34 l (heap_downLeast.f l i)).f0, (rd_T34 l (heap_downLeast.f l i)).f1⟩).set (heap_downLeast.f l i).toNat ⟨(rd_T34 l i).f0, (rd_T34 l i).f1⟩) (heap_downLeast.f l i)
def heap_down.f (k : Nat) (l0 : List S34) : Option (List S34) := if l0.length < 1000000000000 then heap_down.l0 k l0 0 else none
theorem heap_down.mono_l : ∀ k, (∀ y0 y1, LeO (heap_down.l0 k y0 y1) (heap_down.l0 (k + 1) y0 y1))
  | 0 => fun _ _ r h => by simp [heap_down.l0] at h
  | k + 1 => by
    have ih0 := heap_down.mono_l k
    intro y0 y1
    unfold heap_down.l0
    exact LeO.ite (LeO.refl _) (ih0 _ _)
theorem heap_down.mono : ∀ a0 k, LeO (heap_down.f k a0) (heap_down.f (k + 1) a0) := fun a0 k => LeO.ite (heap_down.mono_l k _ _) (LeO.none _)
def heap_down.T6 : Bool × List (List Nat × List Nat) := (true, [([], []), ([], []), ([], []), ([], []), ([], []), ([], []), ([4, 5], [4, 5]), ([6], [6]), ([], []), ([], []), ([8, 9], [8, 9]), ([10], [10]), ([0, 1, 0, 1, 4, 5, 6, 7, 11], [0, 1]), ([12, 7, 0, 1, 4, 5, 6, 7, 11], [7, 12]), ([2, 3, 0, 1, 2, 3, 4, 5, 6, 7, 8, 9, 10, 11, 12, 13], [2, 3]), ([14, 11, 13, 0, 1, 2, 3, 4, 5, 6, 7, 8, 9, 10, 11, 12, 13], [11, 14])])
def heap_down.B6 : List Nat := [0, 0, 0, 0, 0, 0, 48, 112, 0, 0, 768, 1792, 4083, 8179, 16383, 32767]
theorem heap_down.tab6 : rtab .any (opsOf Try.f46 6) = heap_down.T6 := by kernel_rfl
theorem heap_down.bits6 : waitsOk heap_down.T6.2 heap_down.B6 = true := by kernel_rfl
set_option maxHeartbeats 8000000 in
set_option maxRecDepth 100000 in
theorem heap_down.calls (k : Nat) (P0_ : Nat → Prop) (u9000_ : Value) (l0 : List (S34)) (r : List (S34)) (w0 w : World) (hB : Below w0.heap.size w0 w) (ho0 : Kd.R k34 34 w w0.heap.size P0_ u9000_ l0) (h : heap_down.f k l0 = some r) :
    Calls Try.prog 46 #[u9000_] w fun e w' => e = .returned (.tuple #[]) ∧ Kd.R k34 34 w' w0.heap.size (fun k_ => (P0_ k_ ∨ w.heap.size ≤ k_)) u9000_ r ∧ Below w0.heap.size w0 w' ∧ Kept w w' (fun k_ => P0_ k_) := by
  have hu34 := Try.underlying34
  have HO := Aside0.mk (show Kd.R k34 34 w w0.heap.size (fun k_ => (P0_ k_ ∨ w.heap.size ≤ k_)) u9000_ l0 from Kd.R_mono ho0 (fun k_ hk => (.inl hk)))
  have HK := Aside0.mk (Kept.refl w (fun k_ => P0_ k_))
  have HB := Aside0.mk hB
  obtain ⟨A, c, hu⟩ := Kd.R_slice ho0
  subst hu
  clear ho0 hB
  unfold heap_down.f at h
  by_cases hl : l0.length < 1000000000000
  · rw [if_pos hl] at h
    have H' := Aside0.mk h
    have HL := Aside0.mk hl
    clear h hl
    have hmf : ∀ (fn : Fn) (first cap : Array Value) (w : World), (Instr.makeFunc fn first cap).run Try.prog w = .ok (.func fn first cap) w := fun _ _ _ _ => rfl
    go_enter Try.func46, Try.ntmps46
    go_wp2_with (first | ((with_reducible refine gate_dst (N := 1) rfl ?_); refine box_event ?hg (N := 1) ?hd (cs := #[.slice A l0.length c]) (t := 32) ?hr ?_; (case hd => rfl); (case hg => rfl); (case hr => first | (go_simp; done) | (go_simp; rfl)); intro gh hg w1 hbox hb; have hB0 := Aside0.mk HB.out.size; have GH := Aside0.mk (show w.heap.size ≤ gh from Nat.le_of_eq hg.symm); have HH := Aside0.mk hbox; replace HO := Aside0.mk (Kd.R_below HO.out hb); replace HK := Aside0.mk (Kept.below HK.out hb); replace HB := Aside0.mk (below_step HB.out hb); clear hg hbox hb) | ((with_reducible refine gate_dst (N := 2) rfl ?_); refine box_event ?hg (N := 2) ?hd (cs := #[.int .i64 0]) (t := 3) ?hr ?_; (case hd => rfl); (case hg => rfl); (case hr => first | (go_simp; done) | (go_simp; rfl)); intro gi hg w2 hbox hb; have GI := Aside0.mk (show w.heap.size ≤ gi by rw [hg]; exact HK.out.1); have HNE := Aside0.mk (show gh ≠ gi by have := blk_lt HH.out; omega); have HI := Aside0.mk hbox; replace HH := Aside0.mk (blk_below HH.out hb); replace HO := Aside0.mk (Kd.R_below HO.out hb); replace HK := Aside0.mk (Kept.below HK.out hb); replace HB := Aside0.mk (below_step HB.out hb); have hzc := blk_cell HI.out 0; have hzf := blk_frozen HI.out 0; clear hg hbox hb) | (go_at_call 47; have HI3 := Aside0.mk (blk_set HI.out 0 (.int .i64 0)); have HH3 := Aside0.mk (blk_far HH.out (p := ⟨gi, 0, none⟩) HNE.out (.int .i64 0)); have HO3 := Aside0.mk (Kd.R_set HO.out HI.out (by decide) 0 (.int .i64 0)); have HK3 := Aside0.mk (Kept.setCell HK.out (p := ⟨gi, 0, none⟩) (.inr GI.out) (.int .i64 0)); have HB3 := Aside0.mk (HB.out.setCell (p := ⟨gi, 0, none⟩) (Nat.le_trans hB0.out GI.out) (.int .i64 0)); refine (heap_downLeast.calls l0 0 gi gh A c _ HI3.out HH3.out (Kd.R_reads' HO3.out).2.2 (by omega) (by omega) HL.out (by omega)).mono ?_; rintro e w3 ⟨rfl, hb⟩; have HI4 := Aside0.mk (blk_below HI3.out hb); have HH4 := Aside0.mk (blk_below HH3.out hb); have HO4 := Aside0.mk (Kd.R_below HO3.out hb); have HK4 := Aside0.mk (Kept.below HK3.out hb); have HB4 := Aside0.mk (below_step HB3.out hb); clear hb HI3 HH3 HO3 HK3 HB3))
    go_loopg [4] k (fun kq v4 w' => ∃ (l : List S34) (i kk : Int), v4 = .int .i64 kk ∧ Aside0 (kk = heap_downLeast.f l i) ∧ Aside0 (heap_down.l0 kq l i = some r) ∧ Aside0 (kq ≤ k) ∧ Aside0 (l.length = l0.length ∧ 0 ≤ i ∧ i < 1000000000000 ∧ (0 < l.length → i < (l.length : Int))) ∧ Aside0 (w'.heap[gi]? = some (.cells #[.int .i64 i] 3 (0, 0))) ∧ Aside0 (w'.heap[gh]? = some (.cells #[.slice A l0.length c] 32 (0, 0))) ∧ Aside0 (Kd.R k34 34 w' w0.heap.size (fun k_ => (P0_ k_ ∨ w.heap.size ≤ k_)) (.slice A l0.length c) l) ∧ Aside0 (Below w0.heap.size w0 w') ∧ Aside0 (Kept w w' (fun k_ => P0_ k_)))
    case atStart => exact ⟨l0, 0, heap_downLeast.f l0 0, (by first | rfl | (simp; done)), ⟨rfl⟩, H', ⟨Nat.le_refl _⟩, ⟨rfl, by omega, by omega, by omega⟩, HI4, HH4, HO4, HB4, HK4⟩
    case round =>
      clear H' HO HK HB HO4 HK4 HB4 HI4 HH4 HI HH hzc hzf
      obtain ⟨l, i, kk, rfl, HE, HA, HQ, HI0, HI, HH, HO, HB, HK⟩ := hrel
      have hci := (blk_cell HI.out 0).trans rfl
      have hch := (blk_cell HH.out 0).trans rfl
      cases gk with
      | zero => exact absurd HA.out (by simp [heap_down.l0])
      | succ k1 =>
        have H := HA.out
        clear HA
        simp only [heap_down.l0] at H
        rw [← HE.out] at H
        by_cases hki : kk = i
        · rw [if_pos hki] at H
          obtain rfl := Option.some.inj H
          have hkb : (kk != i) = false := by rw [hki]; simp
          have hki := Aside0.mk hki
          go_wp2
          first | go_end0 | ((try simp only [Exit.inBlock, Exit.then]); refine bodyPost_ret (results_none rfl _ _ _) rfl ?_)
          exact ⟨rfl, HO.out, HB.out, HK.out⟩
        · rw [if_neg hki] at H
          obtain ⟨hp, hk0_, hk1_⟩ := heap_downLeast.ne_lt l i HI0.out.2.1 HI0.out.2.2.2 (HE.out ▸ hki)
          rw [← HE.out] at hk0_ hk1_
          obtain ⟨hln, hi0_, hi2_, hi1_⟩ := HI0.out
          replace hi1_ := hi1_ hp
          have hsz : w.heap.size ≤ wr.heap.size := HK.out.1
          obtain ⟨g, cap, he, hg0, hglt, cells, hgc⟩ := Kd.R_form HO.out hp
          obtain ⟨eA, _, ec⟩ : A = some ⟨g, 0, none⟩ ∧ True ∧ c = cap := by injection he with e1 e2 e3; exact ⟨e1, trivial, e3⟩
          subst eA
          subst ec
          clear he
          have hMg : P0_ g ∨ w.heap.size ≤ g := HO.out.1 g rfl
          have hni : gi ≠ g := Ne.symm (blk_ne hgc HI.out (by decide))
          have hnh : gh ≠ g := Ne.symm (blk_ne hgc HH.out (by decide))
          have HOd : Kd.R k34 34 wr.drew w0.heap.size (fun k_ => (P0_ k_ ∨ w.heap.size ≤ k_)) (.slice (some ⟨g, 0, none⟩) l0.length c) l := Kd.R_drew HO.out
          have hin : i < (l0.length : Int) := by omega
          have hkn : kk < (l0.length : Int) := by omega
          obtain ⟨ce1, hcl1, hM1, hcc1, hfr1⟩ := Kd.R_elem HOd z34 i hi0_ hin
          obtain rfl := k34_openM hM1
          obtain ⟨ce2, hcl2, hM2, hcc2, hfr2⟩ := Kd.R_elem HOd z34 kk hk0_ hkn
          obtain rfl := k34_openM hM2
          have hi0 : wr.drew.cell? ⟨g, i.toNat * 2, none⟩ = some (.int .i64 (rd_T34 l i).f0) := hcc1 0 _ rfl
          have hi1 : wr.drew.cell? ⟨g, i.toNat * 2 + 1, none⟩ = some (.int .i64 (rd_T34 l i).f1) := hcc1 1 _ rfl
          have hif0 : wr.drew.frozen? ⟨g, i.toNat * 2, none⟩ = false := hfr1 0
          have hif1 : wr.drew.frozen? ⟨g, i.toNat * 2 + 1, none⟩ = false := hfr1 1
          have hk0 : wr.drew.cell? ⟨g, kk.toNat * 2, none⟩ = some (.int .i64 (rd_T34 l kk).f0) := hcc2 0 _ rfl
          have hk1 : wr.drew.cell? ⟨g, kk.toNat * 2 + 1, none⟩ = some (.int .i64 (rd_T34 l kk).f1) := hcc2 1 _ rfl
          have HP := Kd.R_seg HOd i hi0_ hin (seg := [.int .i64 (rd_T34 l kk).f0, .int .i64 (rd_T34 l kk).f1]) (j := 0) hcl1 hcc1 (show 2 ≤ 2 from by decide) (x' := (⟨(rd_T34 l kk).f0, (rd_T34 l kk).f1⟩ : S34)) (okp := fun _ => False) (k34_mkM _ _ _ _) (fun _ hk => hk.elim)
          obtain ⟨ce3, hcl3, hM3, hcc3, hfr3⟩ := Kd.R_elem HP.1 z34 kk hk0_ hkn
          obtain rfl := k34_openM hM3
          have hkv : (l.set i.toNat ⟨(rd_T34 l kk).f0, (rd_T34 l kk).f1⟩).getD kk.toNat z34 = rd_T34 l kk := by
            have e_ : rd_T34 l kk = l.getD kk.toNat z34 := rfl
            rw [e_, List.getD_eq_getElem?_getD, List.getElem?_set_ne (by omega), ← List.getD_eq_getElem?_getD]
          have hk70 : ((wr.drew.setCell ⟨g, i.toNat * 2, none⟩ (.int .i64 (rd_T34 l kk).f0)).setCell ⟨g, i.toNat * 2 + 1, none⟩ (.int .i64 (rd_T34 l kk).f1)).cell? ⟨g, kk.toNat * 2, none⟩ = some (.int .i64 (rd_T34 l kk).f0) := by
            have h_ := hcc3 0 _ rfl
            rw [hkv] at h_
            exact h_
          have hk71 : ((wr.drew.setCell ⟨g, i.toNat * 2, none⟩ (.int .i64 (rd_T34 l kk).f0)).setCell ⟨g, i.toNat * 2 + 1, none⟩ (.int .i64 (rd_T34 l kk).f1)).cell? ⟨g, kk.toNat * 2 + 1, none⟩ = some (.int .i64 (rd_T34 l kk).f1) := by
            have h_ := hcc3 1 _ rfl
            rw [hkv] at h_
            exact h_
          have hkf0 : ((wr.drew.setCell ⟨g, i.toNat * 2, none⟩ (.int .i64 (rd_T34 l kk).f0)).setCell ⟨g, i.toNat * 2 + 1, none⟩ (.int .i64 (rd_T34 l kk).f1)).frozen? ⟨g, kk.toNat * 2, none⟩ = false := hfr3 0
          have hkf1 : ((wr.drew.setCell ⟨g, i.toNat * 2, none⟩ (.int .i64 (rd_T34 l kk).f0)).setCell ⟨g, i.toNat * 2 + 1, none⟩ (.int .i64 (rd_T34 l kk).f1)).frozen? ⟨g, kk.toNat * 2 + 1, none⟩ = false := hfr3 1
          have HP2 := Aside0.mk (Kd.R_seg HP.1 kk hk0_ hkn (seg := [.int .i64 (rd_T34 l i).f0, .int .i64 (rd_T34 l i).f1]) (j := 0) hcl3 hcc3 (show 2 ≤ 2 from by decide) (x' := (⟨(rd_T34 l i).f0, (rd_T34 l i).f1⟩ : S34)) (okp := fun _ => False) (k34_mkM _ _ _ _) (fun _ hk => hk.elim)).1
          have hch6 : wr.drew.cell? ⟨gh, 0, none⟩ = some (.slice (some ⟨g, 0, none⟩) l0.length c) := hch
          have hci6 : wr.drew.cell? ⟨gi, 0, none⟩ = some (.int .i64 i) := hci
          have hch7 := (blk_cell (blk_far (blk_far (w := wr.drew) HH.out (p := ⟨g, i.toNat * 2, none⟩) hnh (.int .i64 (rd_T34 l kk).f0)) (p := ⟨g, i.toNat * 2 + 1, none⟩) hnh (.int .i64 (rd_T34 l kk).f1)) 0).trans rfl
          have hci7 := (blk_cell (blk_far (blk_far (w := wr.drew) HI.out (p := ⟨g, i.toNat * 2, none⟩) hni (.int .i64 (rd_T34 l kk).f0)) (p := ⟨g, i.toNat * 2 + 1, none⟩) hni (.int .i64 (rd_T34 l kk).f1)) 0).trans rfl
          have HI8 := Aside0.mk (blk_far (blk_far (blk_far (blk_far (w := wr.drew) HI.out (p := ⟨g, i.toNat * 2, none⟩) hni (.int .i64 (rd_T34 l kk).f0)) (p := ⟨g, i.toNat * 2 + 1, none⟩) hni (.int .i64 (rd_T34 l kk).f1)) (p := ⟨g, kk.toNat * 2, none⟩) hni (.int .i64 (rd_T34 l i).f0)) (p := ⟨g, kk.toNat * 2 + 1, none⟩) hni (.int .i64 (rd_T34 l i).f1))
          have HH8 := Aside0.mk (blk_far (blk_far (blk_far (blk_far (w := wr.drew) HH.out (p := ⟨g, i.toNat * 2, none⟩) hnh (.int .i64 (rd_T34 l kk).f0)) (p := ⟨g, i.toNat * 2 + 1, none⟩) hnh (.int .i64 (rd_T34 l kk).f1)) (p := ⟨g, kk.toNat * 2, none⟩) hnh (.int .i64 (rd_T34 l i).f0)) (p := ⟨g, kk.toNat * 2 + 1, none⟩) hnh (.int .i64 (rd_T34 l i).f1))
          have hci8 := (blk_cell HI8.out 0).trans rfl
          have hfi8 := blk_frozen HI8.out 0
          have HB8 := Aside0.mk (((((below_drew1 HB.out).setCell (p := ⟨g, i.toNat * 2, none⟩) hg0 (.int .i64 (rd_T34 l kk).f0)).setCell (p := ⟨g, i.toNat * 2 + 1, none⟩) hg0 (.int .i64 (rd_T34 l kk).f1)).setCell (p := ⟨g, kk.toNat * 2, none⟩) hg0 (.int .i64 (rd_T34 l i).f0)).setCell (p := ⟨g, kk.toNat * 2 + 1, none⟩) hg0 (.int .i64 (rd_T34 l i).f1))
          have HK8 := Aside0.mk (((((Kept.drew HK.out).setCell (p := ⟨g, i.toNat * 2, none⟩) hMg (.int .i64 (rd_T34 l kk).f0)).setCell (p := ⟨g, i.toNat * 2 + 1, none⟩) hMg (.int .i64 (rd_T34 l kk).f1)).setCell (p := ⟨g, kk.toNat * 2, none⟩) hMg (.int .i64 (rd_T34 l i).f0)).setCell (p := ⟨g, kk.toNat * 2 + 1, none⟩) hMg (.int .i64 (rd_T34 l i).f1))
          obtain ⟨l', hl'⟩ : ∃ l', l' = (l.set i.toNat ⟨(rd_T34 l kk).f0, (rd_T34 l kk).f1⟩).set kk.toNat ⟨(rd_T34 l i).f0, (rd_T34 l i).f1⟩ := ⟨_, rfl⟩
          rw [← hl'] at H
          have hll : l'.length = l0.length := by rw [hl', List.length_set, List.length_set, hln]
          have HP9 : Aside0 (Kd.R k34 34 ((((wr.drew.setCell ⟨g, i.toNat * 2, none⟩ (.int .i64 (rd_T34 l kk).f0)).setCell ⟨g, i.toNat * 2 + 1, none⟩ (.int .i64 (rd_T34 l kk).f1)).setCell ⟨g, kk.toNat * 2, none⟩ (.int .i64 (rd_T34 l i).f0)).setCell ⟨g, kk.toNat * 2 + 1, none⟩ (.int .i64 (rd_T34 l i).f1)) w0.heap.size (fun k_ => (P0_ k_ ∨ w.heap.size ≤ k_)) (.slice (some ⟨g, 0, none⟩) l0.length c) l') := ⟨by rw [hl']; exact HP2.out⟩
          have H' := Aside0.mk H
          have HLL := Aside0.mk hll
          have HKK := Aside0.mk (show 0 ≤ kk ∧ kk < (l0.length : Int) from ⟨hk0_, hkn⟩)
          clear H hl' hll HP2 HP hcl1 hcc1 hfr1 hcl2 hcc2 hfr2 hcl3 hcc3 hfr3 hkv HOd hM1 hM2 hM3
          have hkb : (kk != i) = true := by simp [hki]
          have hkb2 : (kk == i) = false := by simp [hki]
          have q1 := eq_true hi0_
          have q2 := eq_true hin
          have q3 := eq_true hk0_
          have q4 := eq_true hkn
          go_wp2
          refine start_ (n := 16) (S := fun w' => w'.cell? ⟨gh, 0, none⟩ = some (.slice (some ⟨g, 0, none⟩) l0.length c) ∧ w'.cell? ⟨gi, 0, none⟩ = some (.int .i64 i) ∧ w'.cell? ⟨g, (kk).toNat * 2, none⟩ = some (.int .i64 (rd_T34 l (kk)).f0) ∧ w'.cell? ⟨g, (kk).toNat * 2 + 1, none⟩ = some (.int .i64 (rd_T34 l (kk)).f1)) (ds := [15]) #[false, false, false, false, false, false, false, false, false, false, false, false, false, false, false, false] (by kernel_rfl) rfl rfl ⟨hch6, hci6, hk0, hk1⟩ (fun hHeld => ?_)
          refine with_tabW heap_down.tab6 heap_down.bits6 (fun HT_ HW_ => ?_)
          generalize wr.drew = wd at hi0 hi1 hif0 hif1 hk0 hk1 hk70 hk71 hkf0 hkf1 hch7 hci7 HI8 HH8 hci8 hfi8 HB8 HK8 HP9 hHeld ⊢
          refine pure_ (i := 3) (N := some 16) (v := ?_) (a' := ?_) #[false, false, false, true, false, false, false, false, false, false, false, false, false, false, false, false] rfl rfl (any_of HT_.out (by kernel_rfl)) (fun _ _ _ h => h) (Or.inl ⟨by rfl, ?_⟩) ?_ ?_
          rotate_left
          · intro w'
            go_simp
            with_reducible rfl
          rotate_left
          · simp only [Act.put, List.setIfInBounds_toArray, List.set_cons_zero, List.set_cons_succ, i64_w, i32_w]
            rfl
          refine pure_ (i := 5) (N := some 18) (v := ?_) (a' := ?_) #[false, false, false, true, false, true, false, false, false, false, false, false, false, false, false, false] rfl rfl (any_of HT_.out (by kernel_rfl)) (fun _ _ _ h => h) (Or.inl ⟨by rfl, ?_⟩) ?_ ?_
          rotate_left
          · intro w'
            go_simp
            with_reducible rfl
          rotate_left
          · simp only [Act.put, List.setIfInBounds_toArray, List.set_cons_zero, List.set_cons_succ, i64_w, i32_w]
            rfl
          refine take_ (i := 0) (N := some 13) (v := ?_) (a' := ?_) #[true, false, false, true, false, true, false, false, false, false, false, false, false, false, false, false] rfl rfl (take_ofW HT_.out HW_.out (by kernel_rfl)) (fun _ _ _ h => h) (Or.inl ⟨by rfl, ?_⟩) hHeld ?_ ?_
          rotate_left
          · rintro w' ⟨s0, s1, s2, s3⟩
            go_simp
            with_reducible rfl
          rotate_left
          · simp only [Act.put, List.setIfInBounds_toArray, List.set_cons_zero, List.set_cons_succ, i64_w, i32_w]
            rfl
          refine take_ (i := 1) (N := some 14) (v := ?_) (a' := ?_) #[true, true, false, true, false, true, false, false, false, false, false, false, false, false, false, false] rfl rfl (take_ofW HT_.out HW_.out (by kernel_rfl)) (fun _ _ _ h => h) (Or.inl ⟨by rfl, ?_⟩) hHeld ?_ ?_
          rotate_left
          · rintro w' ⟨s0, s1, s2, s3⟩
            go_simp
            with_reducible rfl
          rotate_left
          · simp only [Act.put, List.setIfInBounds_toArray, List.set_cons_zero, List.set_cons_succ, i64_w, i32_w]
            rfl
          refine take_ (i := 2) (N := some 15) (v := ?_) (a' := ?_) #[true, true, true, true, false, true, false, false, false, false, false, false, false, false, false, false] rfl rfl (take_ofW HT_.out HW_.out (by kernel_rfl)) (fun _ _ _ h => h) (Or.inl ⟨by rfl, ?_⟩) hHeld ?_ ?_
          rotate_left
          · rintro w' ⟨s0, s1, s2, s3⟩
            go_simp
            with_reducible rfl
          rotate_left
          · simp only [Act.put, List.setIfInBounds_toArray, List.set_cons_zero, List.set_cons_succ, i64_w, i32_w]
            rfl
          refine take_ (i := 4) (N := some 17) (v := ?_) (a' := ?_) #[true, true, true, true, true, true, false, false, false, false, false, false, false, false, false, false] rfl rfl (take_ofW HT_.out HW_.out (by kernel_rfl)) (fun _ _ _ h => h) (Or.inl ⟨by rfl, ?_⟩) hHeld ?_ ?_
          rotate_left
          · rintro w' ⟨s0, s1, s2, s3⟩
            go_simp
            with_reducible rfl
          rotate_left
          · simp only [Act.put, List.setIfInBounds_toArray, List.set_cons_zero, List.set_cons_succ, i64_w, i32_w]
            rfl
          refine pure_ (i := 6) (N := some 19) (v := ?_) (a' := ?_) #[true, true, true, true, true, true, true, false, false, false, false, false, false, false, false, false] rfl rfl (any_of HT_.out (by kernel_rfl)) (fun _ _ _ h => h) (Or.inl ⟨by rfl, ?_⟩) ?_ ?_
          rotate_left
          · intro w'
            go_simp
            with_reducible rfl
          rotate_left
          · simp only [Act.put, List.setIfInBounds_toArray, List.set_cons_zero, List.set_cons_succ, i64_w, i32_w]
            rfl
          refine take_ (i := 7) (N := some 20) (v := ?_) (a' := ?_) #[true, true, true, true, true, true, true, true, false, false, false, false, false, false, false, false] rfl rfl (take_ofW HT_.out HW_.out (by kernel_rfl)) (fun _ _ _ h => h) (Or.inl ⟨by rfl, ?_⟩) hHeld ?_ ?_
          rotate_left
          · rintro w' ⟨s0, s1, s2, s3⟩
            go_simp
            with_reducible rfl
          rotate_left
          · simp only [Act.put, List.setIfInBounds_toArray, List.set_cons_zero, List.set_cons_succ, i64_w, i32_w]
            rfl
          refine take_ (i := 8) (N := some 21) (v := ?_) (a' := ?_) #[true, true, true, true, true, true, true, true, true, false, false, false, false, false, false, false] rfl rfl (take_ofW HT_.out HW_.out (by kernel_rfl)) (fun _ _ _ h => h) (Or.inl ⟨by rfl, ?_⟩) hHeld ?_ ?_
          rotate_left
          · rintro w' ⟨s0, s1, s2, s3⟩
            go_simp
            with_reducible rfl
          rotate_left
          · simp only [Act.put, List.setIfInBounds_toArray, List.set_cons_zero, List.set_cons_succ, i64_w, i32_w]
            rfl
          refine take_ (i := 9) (N := some 22) (v := ?_) (a' := ?_) #[true, true, true, true, true, true, true, true, true, true, false, false, false, false, false, false] rfl rfl (take_ofW HT_.out HW_.out (by kernel_rfl)) (fun _ _ _ h => h) (Or.inl ⟨by rfl, ?_⟩) hHeld ?_ ?_
          rotate_left
          · rintro w' ⟨s0, s1, s2, s3⟩
            go_simp
            with_reducible rfl
          rotate_left
          · simp only [Act.put, List.setIfInBounds_toArray, List.set_cons_zero, List.set_cons_succ, i64_w, i32_w]
            rfl
          refine pure_ (i := 10) (N := some 23) (v := ?_) (a' := ?_) #[true, true, true, true, true, true, true, true, true, true, true, false, false, false, false, false] rfl rfl (any_of HT_.out (by kernel_rfl)) (fun _ _ _ h => h) (Or.inl ⟨by rfl, ?_⟩) ?_ ?_
          rotate_left
          · intro w'
            go_simp
            with_reducible rfl
          rotate_left
          · simp only [Act.put, List.setIfInBounds_toArray, List.set_cons_zero, List.set_cons_succ, i64_w, i32_w]
            rfl
          refine one_ (i := 11) (N := some 24) #[true, true, true, true, true, true, true, true, true, true, true, true, false, false, false, false] rfl rfl (one_of HT_.out (by kernel_rfl)) (by decide) (fun K hK => ?_)
          refine value_ (w1 := ?_) (v := ?_) (by rfl) rfl ?_ ?_
          rotate_left 2
          · go_simp
            constructor
            · rfl
            · rfl
          refine hK.out _ _ ⟨hHeld.1, hHeld.2.1, hHeld.2.2.1, hHeld.2.2.2⟩ (fun hHeld => ?_)
          clear hK K
          refine norm_ (a' := ?_) ?_ ?_
          rotate_left
          · show Act.put _ (some 24) _ = _
            simp only [Act.put, List.setIfInBounds_toArray, List.set_cons_zero, List.set_cons_succ, i64_w, i32_w]
            rfl
          refine pure_ (i := 12) (N := some 25) (v := ?_) (a' := ?_) #[true, true, true, true, true, true, true, true, true, true, true, true, true, false, false, false] rfl rfl (any_of HT_.out (by kernel_rfl)) (fun _ _ _ h => h) (Or.inl ⟨by rfl, ?_⟩) ?_ ?_
          rotate_left
          · intro w'
            go_simp
            with_reducible rfl
          rotate_left
          · simp only [Act.put, List.setIfInBounds_toArray, List.set_cons_zero, List.set_cons_succ, i64_w, i32_w]
            rfl
          refine one_ (i := 13) (N := none) #[true, true, true, true, true, true, true, true, true, true, true, true, true, true, false, false] rfl rfl (one_of HT_.out (by kernel_rfl)) (by decide) (fun K hK => ?_)
          refine skip_ (w1 := ?_) (by rfl) rfl ?_ ?_
          rotate_left
          · go_simp
            rfl
          refine hK.out _ _ ⟨hch7, hci7, hk70, hk71⟩ (fun hHeld => ?_)
          clear hK K
          refine pure_ (i := 14) (N := some 26) (v := ?_) (a' := ?_) #[true, true, true, true, true, true, true, true, true, true, true, true, true, true, true, false] rfl rfl (any_of HT_.out (by kernel_rfl)) (fun _ _ _ h => h) (Or.inl ⟨by rfl, ?_⟩) ?_ ?_
          rotate_left
          · intro w'
            go_simp
            with_reducible rfl
          rotate_left
          · simp only [Act.put, List.setIfInBounds_toArray, List.set_cons_zero, List.set_cons_succ, i64_w, i32_w]
            rfl
          refine last_ (i := 15) (N := none) #[true, true, true, true, true, true, true, true, true, true, true, true, true, true, true, true] rfl rfl (one_of HT_.out (by kernel_rfl)) (by decide) (fun K hK => ?_)
          refine skip_ (w1 := ?_) (by rfl) rfl ?_ ?_
          rotate_left
          · go_simp
            rfl
          refine hK.out _ _ ?_
          clear hK K
          refine done_ (done_of HT_.out (by kernel_rfl)) ?_

          go_wp2_with (go_at_call 47; have HI9 := Aside0.mk (blk_set HI8.out 0 (.int .i64 kk)); have HH9 := Aside0.mk (blk_far HH8.out (p := ⟨gi, 0, none⟩) HNE.out (.int .i64 kk)); have HO9 := Aside0.mk (Kd.R_set HP9.out HI8.out (by decide) 0 (.int .i64 kk)); have HK9 := Aside0.mk (Kept.setCell HK8.out (p := ⟨gi, 0, none⟩) (.inr GI.out) (.int .i64 kk)); have HB9 := Aside0.mk (HB8.out.setCell (p := ⟨gi, 0, none⟩) (Nat.le_trans hB0.out GI.out) (.int .i64 kk)); refine (heap_downLeast.calls l' kk gi gh _ c _ HI9.out (by rw [HLL.out]; exact HH9.out) (Kd.R_reads' HO9.out).2.2 HKK.out.1 (by have := HKK.out.2; have := HL.out; omega) (by have := HLL.out; have := HL.out; omega) (fun _ => by have := HLL.out; have := HKK.out.2; omega)).mono ?_; rintro e w10 ⟨rfl, hb⟩; have HI10 := Aside0.mk (blk_below HI9.out hb); have HH10 := Aside0.mk (blk_below HH9.out hb); have HO10 := Aside0.mk (Kd.R_below HO9.out hb); have HK10 := Aside0.mk (Kept.below HK9.out hb); have HB10 := Aside0.mk (below_step HB9.out hb); clear hb)
          go_roundg k1
          case measure => have := HQ.out; omega
          case rel => exact ⟨l', kk, _, rfl, ⟨rfl⟩, H', ⟨by have := HQ.out; omega⟩, ⟨HLL.out, HKK.out.1, by have := HKK.out.2; have := HL.out; omega, fun _ => by have := HLL.out; have := HKK.out.2; omega⟩, HI10, HH10, HO10, HB10, HK10⟩
  · rw [if_neg hl] at h
    exact absurd h (by simp)

end Go.Proofs.Ytdfokaldjfpkhaa.FHeap
