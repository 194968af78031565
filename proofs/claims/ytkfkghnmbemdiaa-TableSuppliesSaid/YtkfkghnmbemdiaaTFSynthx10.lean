-- Written by the session (wip/tools) for this claim: functions of the program as Lean functions, and their contracts.
import Derived.Test.YtkfkghnmbemdiaaTFSynthx0
import Derived.Test.YtkfkghnmbemdiaaTFSynthx9
namespace Go.Proofs.Ytkfkghnmbemdiaa.FSynth
open Go.RowKit Go.Proofs.YtkfkghnmbemdiaaW.PrintWords Go.Proofs.YtkfkghnmbemdiaaW.PrintLast Go.Proofs.YtkfkghnmbemdiaaW.PrintMore
attribute [local go_sem] max2_int min2_int max_two min_two max_three min_three max_four min_four   -- for this text's walks alone
set_option linter.unusedVariables false
set_option linter.unusedSimpArgs false

/-! ### synth_Lay: function 26 -/
-- OWN
def synth_begin.T7 : Bool × List (List Nat × List Nat) := (true, [([], []), ([0], [0]), ([1], [1]), ([2], [2]), ([], []), ([], []), ([5], [5]), ([3, 4, 0, 1, 2, 3, 4, 5, 6], [3, 4]), ([7, 6, 0, 1, 2, 3, 4, 5, 6], [6, 7])])
def synth_begin.B7 : List Nat := [0, 1, 3, 7, 0, 0, 32, 127, 255]
theorem synth_begin.tab7 : rtab .any (opsOf Try.f39 7) = synth_begin.T7 := by kernel_rfl
theorem synth_begin.bits7 : waitsOk synth_begin.T7.2 synth_begin.B7 = true := by kernel_rfl
def synth_begin.l0 : Nat → List S54 → Int → Int → List Int → Option (Bool × List Int)
  | 0, _, _, _, _ => none
  | k + 1, l, t, i, ws => if i < (l.length : Int) then (if (rd_T54 l i).f0 = 0 then none else (if Int.tmod t (rd_T54 l i).f0 = 0 then (if i < (ws.length : Int) then (if rd ws i > 0 then some (false, ws) else synth_begin.l0 k l t (i + 1) (ws.set i.toNat (rd_T54 l i).f1)) else none) else synth_begin.l0 k l t (i + 1) ws)) else some (true, ws)
theorem synth_begin.mono : ∀ k, (∀ y0 y1 y2 y3, LeO (synth_begin.l0 k y0 y1 y2 y3) (synth_begin.l0 (k + 1) y0 y1 y2 y3))
  | 0 => fun _ _ _ _ r h => by simp [synth_begin.l0] at h
  | k + 1 => by
    have ih0 := synth_begin.mono k
    intro y0 y1 y2 y3
    unfold synth_begin.l0
    exact LeO.ite (LeO.ite (LeO.none _) (LeO.ite (LeO.ite (LeO.ite (LeO.refl _) (ih0 _ _ _ _)) (LeO.none _)) (ih0 _ _ _ _))) (LeO.refl _)
set_option maxHeartbeats 4000000 in
set_option maxRecDepth 100000 in
theorem synth_begin.calls (k : Nat) (l : List S54) (t : Int) (ws : List Int) (gy : Nat) (Al : Option Addr) (cl : Nat) (ok : Nat → Prop) (v : Value) (w00 w : World) (hgy : w.heap[gy]? = some (.cells #[.slice Al l.length cl, v] 72 (0, 0))) (hC0 : Kd.C k54 w00 Al l.length l) (hB0 : Below w00.heap.size w00 w) (hR : Kd.R (Kd.int .i64) 3 w w00.heap.size ok v ws) (hll : l.length < 1000000) (b : Bool) (ws' : List Int) (h : synth_begin.l0 k l t 0 ws = some (b, ws')) :
    Calls Try.prog 39 #[.pointer (some ⟨gy, 0, none⟩), .int .i64 t] w fun e w' => e = .returned (.bool b) ∧ w'.heap[gy]? = some (.cells #[.slice Al l.length cl, v] 72 (0, 0)) ∧ Below w00.heap.size w00 w' ∧ Kept w w' (fun k_ => some k_ = v.ownBlock) ∧ Kd.R (Kd.int .i64) 3 w' w00.heap.size ok v ws' := by
  have hu54 := Try.underlying54
  have hu72 := Try.underlying72
  obtain ⟨A, c, ev⟩ := Kd.R_slice hR
  subst ev
  have HC := Aside0.mk hC0
  have HY := Aside0.mk hgy
  have hB00 := Aside0.mk hB0
  have HB := Aside0.mk hB0
  have HR := Aside0.mk hR
  have HK := Aside0.mk (Kept.refl w (fun k_ => some k_ = (Value.slice A ws.length c).ownBlock))
  have H' := Aside0.mk h
  clear hC0 hgy hB0 hR h
  have hcy0 : w.cell? ⟨gy, 0, none⟩ = some (.slice Al l.length cl) := (blk_cell HY.out 0).trans rfl
  go_enter Try.func39, Try.ntmps39
  go_wp2
  go_loopg [12] k (fun kq v12 w' => ∃ (i : Int) (ws1 : List Int), v12 = .int .i64 i ∧ Aside0 (0 ≤ i ∧ i ≤ (l.length : Int) ∧ ws1.length = ws.length) ∧ Aside0 (synth_begin.l0 kq l t i ws1 = some (b, ws')) ∧ Aside0 (kq ≤ k) ∧ Aside0 (w'.heap[gy]? = some (.cells #[.slice Al l.length cl, .slice A ws.length c] 72 (0, 0))) ∧ Aside0 (Kd.R (Kd.int .i64) 3 w' w00.heap.size ok (.slice A ws.length c) ws1) ∧ Aside0 (Below w00.heap.size w00 w') ∧ Aside0 (Kept w w' (fun k_ => some k_ = (Value.slice A ws.length c).ownBlock)))
  case atStart => exact ⟨0, ws, rfl, ⟨by omega⟩, H', ⟨Nat.le_refl _⟩, HY, HR, HB, HK⟩
  case round =>
    clear H' HY HR HB HK hcy0
    obtain ⟨i, ws1, rfl, HI, HA, HQ, HY, HR, HB, HK⟩ := hrel
    obtain ⟨hi0, hi1, hlen⟩ := HI.out
    replace hlen := Aside0.mk hlen
    have hcy0 : wr.cell? ⟨gy, 0, none⟩ = some (.slice Al l.length cl) := (blk_cell HY.out 0).trans rfl
    have hcy1 : wr.cell? ⟨gy, 1, none⟩ = some (.slice A ws.length c) := (blk_cell HY.out 1).trans rfl
    cases gk with
    | zero => exact absurd HA.out (by simp [synth_begin.l0])
    | succ k1 =>
      have H := HA.out
      clear HA
      simp only [synth_begin.l0] at H
      by_cases c1 : i < (l.length : Int)
      · rw [if_pos c1] at H
        have c1b : decide (i < (l.length : Int)) = true := decide_eq_true c1
        obtain ⟨ad, eA, hx0, hx1⟩ := at_T54 (Kd.C_below HC.out HB.out) i hi0 c1
        subst eA
        have q0 := eq_true hi0
        have q1 := eq_true c1
        by_cases c2 : (rd_T54 l i).f0 = 0
        · rw [if_pos c2] at H
          exact absurd H (by simp)
        · rw [if_neg c2] at H
          have c2b := eq_false c2
          clear c2
          by_cases c3 : Int.tmod t (rd_T54 l i).f0 = 0
          · rw [if_pos c3] at H
            have c3b : (Int.tmod t (rd_T54 l i).f0 != 0) = false := bne_eq_false_iff_eq.mpr c3
            clear c3
            by_cases c4 : i < (ws1.length : Int)
            · rw [if_pos c4] at H
              have c4' : i < (ws.length : Int) := by have := hlen.out; omega
              obtain ⟨g, cap, he, hg0, hglt, cells, hgc⟩ := Kd.R_form HR.out (by omega)
              obtain ⟨eA, _, ec⟩ : A = some ⟨g, 0, none⟩ ∧ True ∧ c = cap := by injection he with e1 e2 e3; exact ⟨e1, trivial, e3⟩
              subst eA
              subst ec
              clear he hgc hglt cells
              have q4 := eq_true c4'
              by_cases c5 : rd ws1 i > 0
              · rw [if_pos c5] at H
                have c5b : decide (0 < rd ws1 i) = true := decide_eq_true c5
                obtain ⟨rfl, rfl⟩ : false = b ∧ ws1 = ws' := by simpa using H
                clear H
                go_wp2_with (first | ((with_reducible refine gate_dst (N := 6) rfl ?_); refine box_event ?hg (N := 6) ?hd (cs := #[.int .i64 0, .int .i64 0]) (t := 54) ?hr ?_; (case hd => rfl); (case hg => rfl); (case hr => first | (go_simp; done) | (go_simp; rfl)); intro g6 hg w1 hbox hb; have GN := Aside0.mk (show w.heap.size ≤ g6 by rw [hg]; exact HK.out.1); have GB := Aside0.mk (show w00.heap.size ≤ g6 from Nat.le_trans (below_size hB00.out) GN.out); have NY := Aside0.mk (show gy ≠ g6 by have := blk_lt HY.out; omega); have H6 := Aside0.mk hbox; replace HY := Aside0.mk (blk_below HY.out hb); replace HR := Aside0.mk (Kd.R_below HR.out hb); replace HB := Aside0.mk (below_step HB.out hb); replace HK := Aside0.mk (Kept.below HK.out hb); clear hg hbox hb; have hc60 := (blk_cell H6.out 0).trans rfl; have hc61 := (blk_cell H6.out 1).trans rfl; have hf60 := blk_frozen H6.out 0; have hf61 := blk_frozen H6.out 1) | ((with_reducible refine gate_store (t := 54) (p := 6) rfl ?_); refine store_event (t := 54) (p := 6) (v := ?vo_) (w1 := (w1.setCell ⟨g6, 0, none⟩ (.int .i64 (rd_T54 l i).f0)).setCell ⟨g6, 1, none⟩ (.int .i64 (rd_T54 l i).f1)) ?hg ?ho ?hn ?hr ?_; (case ho => rfl); (case hg => rfl); (case hn => rfl); (case hr => first | (go_simp; done) | (go_simp; rfl)); intro w2 hw; have n0_ : Aside0 (w2.heap[g6]? = some (.cells #[.int .i64 (rd_T54 l i).f0, .int .i64 (rd_T54 l i).f1] 54 (0, 0))) := ⟨by rw [hw]; exact blk_set (blk_set H6.out 0 _) 1 _⟩; have n1_ : Aside0 (w2.heap[gy]? = some (.cells #[.slice (some ad) l.length cl, .slice (some ⟨g, 0, none⟩) ws.length c] 72 (0, 0))) := ⟨by rw [hw]; exact blk_far (blk_far HY.out NY.out _) NY.out _⟩; have n2_ : Aside0 (Kd.R (Kd.int .i64) 3 w2 w00.heap.size ok (.slice (some ⟨g, 0, none⟩) ws.length c) ws1) := ⟨by rw [hw]; exact Kd.R_set (Kd.R_set HR.out H6.out (by decide) 0 _) (blk_set H6.out 0 _) (by decide) 1 _⟩; have n3_ : Aside0 (Below w00.heap.size w00 w2) := ⟨by rw [hw]; exact (HB.out.setCell GB.out _).setCell GB.out _⟩; have n4_ : Aside0 (Kept w w2 (fun k_ => some k_ = (Value.slice (some ⟨g, 0, none⟩) ws.length c).ownBlock)) := ⟨by rw [hw]; exact Kept.setCell (Kept.setCell HK.out (.inr GN.out) _) (.inr GN.out) _⟩; clear hw hc60 hc61 hf60 hf61 H6 HY HR HB HK; have H6 := n0_; have HY := n1_; have HR := n2_; have HB := n3_; have HK := n4_; clear n0_ n1_ n2_ n3_ n4_; have hc60 : w2.cell? ⟨g6, 0, none⟩ = some (.int .i64 (rd_T54 l i).f0) := (blk_cell H6.out 0).trans rfl; have hc61 : w2.cell? ⟨g6, 1, none⟩ = some (.int .i64 (rd_T54 l i).f1) := (blk_cell H6.out 1).trans rfl; have hcy0 : w2.cell? ⟨gy, 0, none⟩ = some (.slice (some ad) l.length cl) := (blk_cell HY.out 0).trans rfl; have hcy1 : w2.cell? ⟨gy, 1, none⟩ = some (.slice (some ⟨g, 0, none⟩) ws.length c) := (blk_cell HY.out 1).trans rfl; have hwq : w2.cell? ⟨g, i.toNat, none⟩ = some (.int .i64 (rd ws1 i)) := (Kd.R_celln 0 HR.out i hi0 c4').1))
                go_ret
                exact ⟨rfl, HY.out, HB.out, HK.out, HR.out⟩
              · rw [if_neg c5] at H
                have c5b : decide (0 < rd ws1 i) = false := decide_eq_false c5
                clear c5
                have H' := Aside0.mk H
                clear H
                go_wp2_with (first | ((with_reducible refine gate_dst (N := 6) rfl ?_); refine box_event ?hg (N := 6) ?hd (cs := #[.int .i64 0, .int .i64 0]) (t := 54) ?hr ?_; (case hd => rfl); (case hg => rfl); (case hr => first | (go_simp; done) | (go_simp; rfl)); intro g6 hg w1 hbox hb; have GN := Aside0.mk (show w.heap.size ≤ g6 by rw [hg]; exact HK.out.1); have GB := Aside0.mk (show w00.heap.size ≤ g6 from Nat.le_trans (below_size hB00.out) GN.out); have NY := Aside0.mk (show gy ≠ g6 by have := blk_lt HY.out; omega); have H6 := Aside0.mk hbox; replace HY := Aside0.mk (blk_below HY.out hb); replace HR := Aside0.mk (Kd.R_below HR.out hb); replace HB := Aside0.mk (below_step HB.out hb); replace HK := Aside0.mk (Kept.below HK.out hb); clear hg hbox hb; have hc60 := (blk_cell H6.out 0).trans rfl; have hc61 := (blk_cell H6.out 1).trans rfl; have hf60 := blk_frozen H6.out 0; have hf61 := blk_frozen H6.out 1) | ((with_reducible refine gate_store (t := 54) (p := 6) rfl ?_); refine store_event (t := 54) (p := 6) (v := ?vo_) (w1 := (w1.setCell ⟨g6, 0, none⟩ (.int .i64 (rd_T54 l i).f0)).setCell ⟨g6, 1, none⟩ (.int .i64 (rd_T54 l i).f1)) ?hg ?ho ?hn ?hr ?_; (case ho => rfl); (case hg => rfl); (case hn => rfl); (case hr => first | (go_simp; done) | (go_simp; rfl)); intro w2 hw; have n0_ : Aside0 (w2.heap[g6]? = some (.cells #[.int .i64 (rd_T54 l i).f0, .int .i64 (rd_T54 l i).f1] 54 (0, 0))) := ⟨by rw [hw]; exact blk_set (blk_set H6.out 0 _) 1 _⟩; have n1_ : Aside0 (w2.heap[gy]? = some (.cells #[.slice (some ad) l.length cl, .slice (some ⟨g, 0, none⟩) ws.length c] 72 (0, 0))) := ⟨by rw [hw]; exact blk_far (blk_far HY.out NY.out _) NY.out _⟩; have n2_ : Aside0 (Kd.R (Kd.int .i64) 3 w2 w00.heap.size ok (.slice (some ⟨g, 0, none⟩) ws.length c) ws1) := ⟨by rw [hw]; exact Kd.R_set (Kd.R_set HR.out H6.out (by decide) 0 _) (blk_set H6.out 0 _) (by decide) 1 _⟩; have n3_ : Aside0 (Below w00.heap.size w00 w2) := ⟨by rw [hw]; exact (HB.out.setCell GB.out _).setCell GB.out _⟩; have n4_ : Aside0 (Kept w w2 (fun k_ => some k_ = (Value.slice (some ⟨g, 0, none⟩) ws.length c).ownBlock)) := ⟨by rw [hw]; exact Kept.setCell (Kept.setCell HK.out (.inr GN.out) _) (.inr GN.out) _⟩; clear hw hc60 hc61 hf60 hf61 H6 HY HR HB HK; have H6 := n0_; have HY := n1_; have HR := n2_; have HB := n3_; have HK := n4_; clear n0_ n1_ n2_ n3_ n4_; have hc60 : w2.cell? ⟨g6, 0, none⟩ = some (.int .i64 (rd_T54 l i).f0) := (blk_cell H6.out 0).trans rfl; have hc61 : w2.cell? ⟨g6, 1, none⟩ = some (.int .i64 (rd_T54 l i).f1) := (blk_cell H6.out 1).trans rfl; have hcy0 : w2.cell? ⟨gy, 0, none⟩ = some (.slice (some ad) l.length cl) := (blk_cell HY.out 0).trans rfl; have hcy1 : w2.cell? ⟨gy, 1, none⟩ = some (.slice (some ⟨g, 0, none⟩) ws.length c) := (blk_cell HY.out 1).trans rfl; have hwq : w2.cell? ⟨g, i.toNat, none⟩ = some (.int .i64 (rd ws1 i)) := (Kd.R_celln 0 HR.out i hi0 c4').1))
                have hcy1 : w2.drew.cell? ⟨gy, 1, none⟩ = some (.slice (some ⟨g, 0, none⟩) ws.length c) := (blk_cell HY.out 1).trans rfl
                have hc61 : w2.drew.cell? ⟨g6, 1, none⟩ = some (.int .i64 (rd_T54 l i).f1) := (blk_cell H6.out 1).trans rfl
                have HRd := Kd.R_drew HR.out
                have hfq : w2.drew.frozen? ⟨g, i.toNat, none⟩ = false := (Kd.R_celln 0 HRd i hi0 c4').2
                have hcq : w2.drew.cell? ⟨g, i.toNat, none⟩ = some (.int .i64 (rd ws1 i)) := (Kd.R_celln 0 HRd i hi0 c4').1
                refine start_ (n := 9) (S := fun w' => w'.cell? ⟨gy, 1, none⟩ = some (.slice (some ⟨g, 0, none⟩) ws.length c) ∧ w'.cell? ⟨g6, 1, none⟩ = some (.int .i64 (rd_T54 l i).f1)) (ds := [8]) #[false, false, false, false, false, false, false, false, false] (by kernel_rfl) rfl rfl ⟨hcy1, hc61⟩ (fun hHeld => ?_)
                refine with_tabW synth_begin.tab7 synth_begin.bits7 (fun HT_ HW_ => ?_)
                refine pure_ (i := 0) (N := some 30) (v := ?_) (a' := ?_) #[true, false, false, false, false, false, false, false, false] rfl rfl (any_of HT_.out (by kernel_rfl)) (fun _ _ _ h => h) (Or.inl ⟨by rfl, ?_⟩) ?_ ?_
                rotate_left
                · intro w'
                  go_simp
                  with_reducible rfl
                rotate_left
                · simp only [Act.put, List.setIfInBounds_toArray, List.set_cons_zero, List.set_cons_succ, i64_w, i32_w]
                  rfl
                refine pure_ (i := 1) (N := some 31) (v := ?_) (a' := ?_) #[true, true, false, false, false, false, false, false, false] rfl rfl (any_of HT_.out (by kernel_rfl)) (fun _ _ _ h => h) (Or.inl ⟨by rfl, ?_⟩) ?_ ?_
                rotate_left
                · intro w'
                  go_simp
                  with_reducible rfl
                rotate_left
                · simp only [Act.put, List.setIfInBounds_toArray, List.set_cons_zero, List.set_cons_succ, i64_w, i32_w]
                  rfl
                refine pure_ (i := 2) (N := some 32) (v := ?_) (a' := ?_) #[true, true, true, false, false, false, false, false, false] rfl rfl (any_of HT_.out (by kernel_rfl)) (fun _ _ _ h => h) (Or.inl ⟨by rfl, ?_⟩) ?_ ?_
                rotate_left
                · intro w'
                  go_simp
                  with_reducible rfl
                rotate_left
                · simp only [Act.put, List.setIfInBounds_toArray, List.set_cons_zero, List.set_cons_succ, i64_w, i32_w]
                  rfl
                refine pure_ (i := 4) (N := some 34) (v := ?_) (a' := ?_) #[true, true, true, false, true, false, false, false, false] rfl rfl (any_of HT_.out (by kernel_rfl)) (fun _ _ _ h => h) (Or.inl ⟨by rfl, ?_⟩) ?_ ?_
                rotate_left
                · intro w'
                  go_simp
                  with_reducible rfl
                rotate_left
                · simp only [Act.put, List.setIfInBounds_toArray, List.set_cons_zero, List.set_cons_succ, i64_w, i32_w]
                  rfl
                refine pure_ (i := 5) (N := some 35) (v := ?_) (a' := ?_) #[true, true, true, false, true, true, false, false, false] rfl rfl (any_of HT_.out (by kernel_rfl)) (fun _ _ _ h => h) (Or.inl ⟨by rfl, ?_⟩) ?_ ?_
                rotate_left
                · intro w'
                  go_simp
                  with_reducible rfl
                rotate_left
                · simp only [Act.put, List.setIfInBounds_toArray, List.set_cons_zero, List.set_cons_succ, i64_w, i32_w]
                  rfl
                refine take_ (i := 3) (N := some 33) (v := ?_) (a' := ?_) #[true, true, true, true, true, true, false, false, false] rfl rfl (take_ofW HT_.out HW_.out (by kernel_rfl)) (fun _ _ _ h => h) (Or.inl ⟨by rfl, ?_⟩) hHeld ?_ ?_
                rotate_left
                · rintro w' ⟨s0, s1⟩
                  go_simp
                  with_reducible rfl
                rotate_left
                · simp only [Act.put, List.setIfInBounds_toArray, List.set_cons_zero, List.set_cons_succ, i64_w, i32_w]
                  rfl
                refine take_ (i := 6) (N := some 36) (v := ?_) (a' := ?_) #[true, true, true, true, true, true, true, false, false] rfl rfl (take_ofW HT_.out HW_.out (by kernel_rfl)) (fun _ _ _ h => h) (Or.inl ⟨by rfl, ?_⟩) hHeld ?_ ?_
                rotate_left
                · rintro w' ⟨s0, s1⟩
                  go_simp
                  with_reducible rfl
                rotate_left
                · simp only [Act.put, List.setIfInBounds_toArray, List.set_cons_zero, List.set_cons_succ, i64_w, i32_w]
                  rfl
                refine pure_ (i := 7) (N := some 37) (v := ?_) (a' := ?_) #[true, true, true, true, true, true, true, true, false] rfl rfl (any_of HT_.out (by kernel_rfl)) (fun _ _ _ h => h) (Or.inl ⟨by rfl, ?_⟩) ?_ ?_
                rotate_left
                · intro w'
                  go_simp
                  with_reducible rfl
                rotate_left
                · simp only [Act.put, List.setIfInBounds_toArray, List.set_cons_zero, List.set_cons_succ, i64_w, i32_w]
                  rfl
                refine last_ (i := 8) (N := none) #[true, true, true, true, true, true, true, true, true] rfl rfl (one_of HT_.out (by kernel_rfl)) (by decide) (fun K hK => ?_)
                refine skip_ (w1 := ?_) (by rfl) rfl ?_ ?_
                rotate_left
                · go_simp
                  rfl
                refine hK.out _ _ ?_
                clear hK K
                refine done_ (done_of HT_.out (by kernel_rfl)) ?_

                go_wp2
                have HR2 := (Kd.R_putg HRd i (rd_T54 l i).f1).1
                have hgy2 : gy ≠ g := fun e => by have := Kd.R_ne HR.out HY.out (by decide); exact this (by rw [e]; rfl)
                have HY2 := blk_far (w := w2.drew) HY.out (p := ⟨g, i.toNat, none⟩) hgy2 (.int .i64 (rd_T54 l i).f1)
                have HB2 := (below_drew1 HB.out).setCell (p := ⟨g, i.toNat, none⟩) hg0 (.int .i64 (rd_T54 l i).f1)
                have HK2 := Kept.setCell (Kept.drew HK.out) (p := ⟨g, i.toNat, none⟩) (.inl rfl) (.int .i64 (rd_T54 l i).f1)
                go_roundg k1
                case measure => have := HQ.out; omega
                case rel => exact ⟨i + 1, _, rfl, ⟨by have := hlen.out; simp only [List.length_set]; omega⟩, H', ⟨by have := HQ.out; omega⟩, ⟨HY2⟩, ⟨HR2⟩, ⟨HB2⟩, ⟨HK2⟩⟩
            · rw [if_neg c4] at H
              exact absurd H (by simp)
          · rw [if_neg c3] at H
            have c3b : (Int.tmod t (rd_T54 l i).f0 != 0) = true := bne_iff_ne.mpr c3
            clear c3
            have H' := Aside0.mk H
            clear H
            go_wp2_with (first | ((with_reducible refine gate_dst (N := 6) rfl ?_); refine box_event ?hg (N := 6) ?hd (cs := #[.int .i64 0, .int .i64 0]) (t := 54) ?hr ?_; (case hd => rfl); (case hg => rfl); (case hr => first | (go_simp; done) | (go_simp; rfl)); intro g6 hg w1 hbox hb; have GN := Aside0.mk (show w.heap.size ≤ g6 by rw [hg]; exact HK.out.1); have GB := Aside0.mk (show w00.heap.size ≤ g6 from Nat.le_trans (below_size hB00.out) GN.out); have NY := Aside0.mk (show gy ≠ g6 by have := blk_lt HY.out; omega); have H6 := Aside0.mk hbox; replace HY := Aside0.mk (blk_below HY.out hb); replace HR := Aside0.mk (Kd.R_below HR.out hb); replace HB := Aside0.mk (below_step HB.out hb); replace HK := Aside0.mk (Kept.below HK.out hb); clear hg hbox hb; have hc60 := (blk_cell H6.out 0).trans rfl; have hc61 := (blk_cell H6.out 1).trans rfl; have hf60 := blk_frozen H6.out 0; have hf61 := blk_frozen H6.out 1) | ((with_reducible refine gate_store (t := 54) (p := 6) rfl ?_); refine store_event (t := 54) (p := 6) (v := ?vo_) (w1 := (w1.setCell ⟨g6, 0, none⟩ (.int .i64 (rd_T54 l i).f0)).setCell ⟨g6, 1, none⟩ (.int .i64 (rd_T54 l i).f1)) ?hg ?ho ?hn ?hr ?_; (case ho => rfl); (case hg => rfl); (case hn => rfl); (case hr => first | (go_simp; done) | (go_simp; rfl)); intro w2 hw; have n0_ : Aside0 (w2.heap[g6]? = some (.cells #[.int .i64 (rd_T54 l i).f0, .int .i64 (rd_T54 l i).f1] 54 (0, 0))) := ⟨by rw [hw]; exact blk_set (blk_set H6.out 0 _) 1 _⟩; have n1_ : Aside0 (w2.heap[gy]? = some (.cells #[.slice (some ad) l.length cl, .slice A ws.length c] 72 (0, 0))) := ⟨by rw [hw]; exact blk_far (blk_far HY.out NY.out _) NY.out _⟩; have n2_ : Aside0 (Kd.R (Kd.int .i64) 3 w2 w00.heap.size ok (.slice A ws.length c) ws1) := ⟨by rw [hw]; exact Kd.R_set (Kd.R_set HR.out H6.out (by decide) 0 _) (blk_set H6.out 0 _) (by decide) 1 _⟩; have n3_ : Aside0 (Below w00.heap.size w00 w2) := ⟨by rw [hw]; exact (HB.out.setCell GB.out _).setCell GB.out _⟩; have n4_ : Aside0 (Kept w w2 (fun k_ => some k_ = (Value.slice A ws.length c).ownBlock)) := ⟨by rw [hw]; exact Kept.setCell (Kept.setCell HK.out (.inr GN.out) _) (.inr GN.out) _⟩; clear hw hc60 hc61 hf60 hf61 H6 HY HR HB HK; have H6 := n0_; have HY := n1_; have HR := n2_; have HB := n3_; have HK := n4_; clear n0_ n1_ n2_ n3_ n4_; have hc60 : w2.cell? ⟨g6, 0, none⟩ = some (.int .i64 (rd_T54 l i).f0) := (blk_cell H6.out 0).trans rfl; have hc61 : w2.cell? ⟨g6, 1, none⟩ = some (.int .i64 (rd_T54 l i).f1) := (blk_cell H6.out 1).trans rfl; have hcy0 : w2.cell? ⟨gy, 0, none⟩ = some (.slice (some ad) l.length cl) := (blk_cell HY.out 0).trans rfl; have hcy1 : w2.cell? ⟨gy, 1, none⟩ = some (.slice A ws.length c) := (blk_cell HY.out 1).trans rfl; skip))
            go_roundg k1
            case measure => have := HQ.out; omega
            case rel => exact ⟨i + 1, ws1, rfl, ⟨by have := hlen.out; omega⟩, H', ⟨by have := HQ.out; omega⟩, HY, HR, HB, HK⟩
      · rw [if_neg c1] at H
        have c1b : decide (i < (l.length : Int)) = false := decide_eq_false c1
        obtain ⟨rfl, rfl⟩ : true = b ∧ ws1 = ws' := by simpa using H
        clear H
        go_wp2
        go_ret
        exact ⟨rfl, HY.out, HB.out, HK.out, HR.out⟩
def synth_next.T5 : Bool × List (List Nat × List Nat) := (true, [([], []), ([], []), ([], []), ([2], [2]), ([1, 3], [1, 3]), ([0, 4], [0, 4]), ([], []), ([6], [6]), ([5, 7], [5, 7]), ([8, 0, 1, 2, 3, 4, 5, 6, 7, 8], [8])])
def synth_next.B5 : List Nat := [0, 0, 0, 4, 14, 31, 0, 64, 255, 511]
theorem synth_next.tab5 : rtab .any (opsOf Try.f40 5) = synth_next.T5 := by kernel_rfl
theorem synth_next.bits5 : waitsOk synth_next.T5.2 synth_next.B5 = true := by kernel_rfl
def synth_next.l0 : Nat → List S54 → List Int → Int → Int → Int → Int → Option Int
  | 0, _, _, _, _, _, _ => none
  | k + 1, l, ws, t, i, o, d => if i < (l.length : Int) then (if 1 ≤ (rd_T54 l i).f0 ∧ (rd_T54 l i).f0 ≤ 1000 then (if i < (ws.length : Int) then (if rd ws i > 0 then (if o = -1 then synth_next.l0 k l ws t (i + 1) i (t - Int.tmod t (rd_T54 l i).f0 + (rd_T54 l i).f0) else (if t - Int.tmod t (rd_T54 l i).f0 + (rd_T54 l i).f0 < d then synth_next.l0 k l ws t (i + 1) i (t - Int.tmod t (rd_T54 l i).f0 + (rd_T54 l i).f0) else synth_next.l0 k l ws t (i + 1) o d)) else synth_next.l0 k l ws t (i + 1) o d) else none) else none) else some o
theorem synth_next.mono_l : ∀ k, (∀ y0 y1 y2 y3 y4 y5, LeO (synth_next.l0 k y0 y1 y2 y3 y4 y5) (synth_next.l0 (k + 1) y0 y1 y2 y3 y4 y5))
  | 0 => fun _ _ _ _ _ _ r h => by simp [synth_next.l0] at h
  | k + 1 => by
    have ih0 := synth_next.mono_l k
    intro y0 y1 y2 y3 y4 y5
    unfold synth_next.l0
    exact LeO.ite (LeO.ite (LeO.ite (LeO.ite (LeO.ite (ih0 _ _ _ _ _ _) (LeO.ite (ih0 _ _ _ _ _ _) (ih0 _ _ _ _ _ _))) (ih0 _ _ _ _ _ _)) (LeO.none _)) (LeO.none _)) (LeO.refl _)
def synth_next.f (k : Nat) (l : List S54) (ws : List Int) (t : Int) : Option (Int × List Int) := if 0 ≤ t ∧ t ≤ 1000 then ((synth_next.l0 k l ws t 0 (-1) 0).bind fun o => if o = -1 then some (-1, ws) else (if 0 ≤ o ∧ o < (ws.length : Int) ∧ 0 ≤ rd ws o ∧ rd ws o ≤ 1000000 then some (o, ws.set o.toNat (rd ws o - 1)) else none)) else none
theorem synth_next.mono : ∀ y0 y1 y2 k, LeO (synth_next.f k y0 y1 y2) (synth_next.f (k + 1) y0 y1 y2) := fun y0 y1 y2 k => LeO.ite (LeO.bind (synth_next.mono_l k _ _ _ _ _ _) (fun _ => LeO.refl _)) (LeO.none _)
set_option maxHeartbeats 4000000 in
set_option maxRecDepth 100000 in
theorem synth_next.calls (k : Nat) (l : List S54) (t : Int) (ws : List Int) (gy : Nat) (Al : Option Addr) (cl : Nat) (ok : Nat → Prop) (v : Value) (w00 w : World) (hgy : w.heap[gy]? = some (.cells #[.slice Al l.length cl, v] 72 (0, 0))) (hC0 : Kd.C k54 w00 Al l.length l) (hB0 : Below w00.heap.size w00 w) (hR : Kd.R (Kd.int .i64) 3 w w00.heap.size ok v ws) (hll : l.length < 1000000) (o : Int) (ws' : List Int) (h : synth_next.f k l ws t = some (o, ws')) :
    Calls Try.prog 40 #[.pointer (some ⟨gy, 0, none⟩), .int .i64 t] w fun e w' => e = .returned (.int .i64 o) ∧ w'.heap[gy]? = some (.cells #[.slice Al l.length cl, v] 72 (0, 0)) ∧ Below w00.heap.size w00 w' ∧ Kept w w' (fun k_ => some k_ = v.ownBlock) ∧ Kd.R (Kd.int .i64) 3 w' w00.heap.size ok v ws' := by
  have hu54 := Try.underlying54
  have hu72 := Try.underlying72
  obtain ⟨A, c, ev⟩ := Kd.R_slice hR
  subst ev
  have HC := Aside0.mk hC0
  have HY := Aside0.mk hgy
  have hB00 := Aside0.mk hB0
  have HB := Aside0.mk hB0
  have HR := Aside0.mk hR
  have HK := Aside0.mk (Kept.refl w (fun k_ => some k_ = (Value.slice A ws.length c).ownBlock))
  have H' := Aside0.mk h
  clear hC0 hgy hB0 hR h
  have hcy0 : w.cell? ⟨gy, 0, none⟩ = some (.slice Al l.length cl) := (blk_cell HY.out 0).trans rfl
  unfold synth_next.f at H'
  obtain ⟨ht0, ht1⟩ : 0 ≤ t ∧ t ≤ 1000 := by
    by_cases hh : 0 ≤ t ∧ t ≤ 1000
    · exact hh
    · have := H'.out; rw [if_neg hh] at this; exact absurd this (by simp)
  obtain ⟨o1, hk1, hk2⟩ := Option.bind_eq_some_iff.mp (show (synth_next.l0 k l ws t 0 (-1) 0).bind _ = _ by have := H'.out; rw [if_pos ⟨ht0, ht1⟩] at this; exact this)
  clear H'
  have H' := Aside0.mk hk1
  have HE := Aside0.mk hk2
  clear hk1 hk2
  go_enter Try.func40, Try.ntmps40
  go_wp2
  go_loopg [5, 6, 15] k (fun kq v5 v6 v15 w' => ∃ (i o d : Int), v5 = .int .i64 o ∧ v6 = .int .i64 d ∧ v15 = .int .i64 i ∧ Aside0 (0 ≤ i ∧ i ≤ (l.length : Int)) ∧ Aside0 (synth_next.l0 kq l ws t i o d = some o1) ∧ Aside0 (kq ≤ k) ∧ Aside0 (w'.heap[gy]? = some (.cells #[.slice Al l.length cl, .slice A ws.length c] 72 (0, 0))) ∧ Aside0 (Kd.R (Kd.int .i64) 3 w' w00.heap.size ok (.slice A ws.length c) ws) ∧ Aside0 (Below w00.heap.size w00 w') ∧ Aside0 (Kept w w' (fun k_ => some k_ = (Value.slice A ws.length c).ownBlock)))
  case atStart => exact ⟨0, -1, 0, rfl, rfl, rfl, ⟨by omega⟩, H', ⟨Nat.le_refl _⟩, HY, HR, HB, HK⟩
  case round =>
    clear H' HY HR HB HK hcy0
    obtain ⟨i, o2, d, rfl, rfl, rfl, HI, HA, HQ, HY, HR, HB, HK⟩ := hrel
    obtain ⟨hi0, hi1⟩ := HI.out
    have hcy0 : wr.cell? ⟨gy, 0, none⟩ = some (.slice Al l.length cl) := (blk_cell HY.out 0).trans rfl
    have hcy1 : wr.cell? ⟨gy, 1, none⟩ = some (.slice A ws.length c) := (blk_cell HY.out 1).trans rfl
    cases gk with
    | zero => exact absurd HA.out (by simp [synth_next.l0])
    | succ k1 =>
      have H := HA.out
      clear HA
      simp only [synth_next.l0] at H
      by_cases c1 : i < (l.length : Int)
      · rw [if_pos c1] at H
        have c1b : decide (i < (l.length : Int)) = true := decide_eq_true c1
        obtain ⟨ad, eA, hx0, hx1⟩ := at_T54 (Kd.C_below HC.out HB.out) i hi0 c1
        subst eA
        have q0 := eq_true hi0
        have q1 := eq_true c1
        by_cases c2 : 1 ≤ (rd_T54 l i).f0 ∧ (rd_T54 l i).f0 ≤ 1000
        · rw [if_pos c2] at H
          obtain ⟨hp1, hp2⟩ := c2
          have hpz : ((rd_T54 l i).f0 = 0) = False := eq_false (by omega)
          have htm : 0 ≤ Int.tmod t (rd_T54 l i).f0 ∧ Int.tmod t (rd_T54 l i).f0 < (rd_T54 l i).f0 := by
            rw [Int.tmod_eq_emod_of_nonneg ht0]; exact ⟨Int.emod_nonneg _ (by omega), Int.emod_lt_of_pos _ (by omega)⟩
          have hwr : wrap64 (wrap64 (t - Int.tmod t (rd_T54 l i).f0) + (rd_T54 l i).f0) = t - Int.tmod t (rd_T54 l i).f0 + (rd_T54 l i).f0 := by unfold wrap64; omega
          by_cases c4 : i < (ws.length : Int)
          · rw [if_pos c4] at H
            obtain ⟨g, cap, he, hg0, hglt, cells, hgc⟩ := Kd.R_form HR.out (by omega)
            obtain ⟨eA, _, ec⟩ : A = some ⟨g, 0, none⟩ ∧ True ∧ c = cap := by injection he with e1 e2 e3; exact ⟨e1, trivial, e3⟩
            subst eA
            subst ec
            clear he hgc hglt cells
            have q4 := eq_true c4
            by_cases c5 : rd ws i > 0
            · rw [if_pos c5] at H
              have c5b : decide (0 < rd ws i) = true := decide_eq_true c5
              clear c5
              by_cases c6 : o2 = -1
              · rw [if_pos c6] at H
                have c6b : (o2 == -1) = true := beq_iff_eq.mpr c6
                clear c6
                have H' := Aside0.mk H
                clear H
                go_wp2_with (first | ((with_reducible refine gate_dst (N := 8) rfl ?_); refine box_event ?hg (N := 8) ?hd (cs := #[.int .i64 0, .int .i64 0]) (t := 54) ?hr ?_; (case hd => rfl); (case hg => rfl); (case hr => first | (go_simp; done) | (go_simp; rfl)); intro g6 hg w1 hbox hb; have GN := Aside0.mk (show w.heap.size ≤ g6 by rw [hg]; exact HK.out.1); have GB := Aside0.mk (show w00.heap.size ≤ g6 from Nat.le_trans (below_size hB00.out) GN.out); have NY := Aside0.mk (show gy ≠ g6 by have := blk_lt HY.out; omega); have H6 := Aside0.mk hbox; replace HY := Aside0.mk (blk_below HY.out hb); replace HR := Aside0.mk (Kd.R_below HR.out hb); replace HB := Aside0.mk (below_step HB.out hb); replace HK := Aside0.mk (Kept.below HK.out hb); clear hg hbox hb; have hc60 := (blk_cell H6.out 0).trans rfl; have hc61 := (blk_cell H6.out 1).trans rfl; have hf60 := blk_frozen H6.out 0; have hf61 := blk_frozen H6.out 1) | ((with_reducible refine gate_store (t := 54) (p := 8) rfl ?_); refine store_event (t := 54) (p := 8) (v := ?vo_) (w1 := (w1.setCell ⟨g6, 0, none⟩ (.int .i64 (rd_T54 l i).f0)).setCell ⟨g6, 1, none⟩ (.int .i64 (rd_T54 l i).f1)) ?hg ?ho ?hn ?hr ?_; (case ho => rfl); (case hg => rfl); (case hn => rfl); (case hr => first | (go_simp; done) | (go_simp; rfl)); intro w2 hw; have n0_ : Aside0 (w2.heap[g6]? = some (.cells #[.int .i64 (rd_T54 l i).f0, .int .i64 (rd_T54 l i).f1] 54 (0, 0))) := ⟨by rw [hw]; exact blk_set (blk_set H6.out 0 _) 1 _⟩; have n1_ : Aside0 (w2.heap[gy]? = some (.cells #[.slice (some ad) l.length cl, .slice (some ⟨g, 0, none⟩) ws.length c] 72 (0, 0))) := ⟨by rw [hw]; exact blk_far (blk_far HY.out NY.out _) NY.out _⟩; have n2_ : Aside0 (Kd.R (Kd.int .i64) 3 w2 w00.heap.size ok (.slice (some ⟨g, 0, none⟩) ws.length c) ws) := ⟨by rw [hw]; exact Kd.R_set (Kd.R_set HR.out H6.out (by decide) 0 _) (blk_set H6.out 0 _) (by decide) 1 _⟩; have n3_ : Aside0 (Below w00.heap.size w00 w2) := ⟨by rw [hw]; exact (HB.out.setCell GB.out _).setCell GB.out _⟩; have n4_ : Aside0 (Kept w w2 (fun k_ => some k_ = (Value.slice (some ⟨g, 0, none⟩) ws.length c).ownBlock)) := ⟨by rw [hw]; exact Kept.setCell (Kept.setCell HK.out (.inr GN.out) _) (.inr GN.out) _⟩; clear hw hc60 hc61 hf60 hf61 H6 HY HR HB HK; have H6 := n0_; have HY := n1_; have HR := n2_; have HB := n3_; have HK := n4_; clear n0_ n1_ n2_ n3_ n4_; have hc60 : w2.cell? ⟨g6, 0, none⟩ = some (.int .i64 (rd_T54 l i).f0) := (blk_cell H6.out 0).trans rfl; have hc61 : w2.cell? ⟨g6, 1, none⟩ = some (.int .i64 (rd_T54 l i).f1) := (blk_cell H6.out 1).trans rfl; have hcy0 : w2.cell? ⟨gy, 0, none⟩ = some (.slice (some ad) l.length cl) := (blk_cell HY.out 0).trans rfl; have hcy1 : w2.cell? ⟨gy, 1, none⟩ = some (.slice (some ⟨g, 0, none⟩) ws.length c) := (blk_cell HY.out 1).trans rfl; have hwq : w2.cell? ⟨g, i.toNat, none⟩ = some (.int .i64 (rd ws i)) := (Kd.R_celln 0 HR.out i hi0 c4).1))

                refine start_ (n := 10) (S := fun w' => w'.cell? ⟨g6, 0, none⟩ = some (.int .i64 (rd_T54 l i).f0)) (ds := []) #[false, false, false, false, false, false, false, false, false, false] (by kernel_rfl) rfl rfl (hc60) (fun hHeld => ?_)
                refine with_tabW synth_next.tab5 synth_next.bits5 (fun HT_ HW_ => ?_)
                refine pure_ (i := 0) (N := some 20) (v := ?_) (a' := ?_) #[true, false, false, false, false, false, false, false, false, false] rfl rfl (any_of HT_.out (by kernel_rfl)) (fun _ _ _ h => h) (Or.inl ⟨by rfl, ?_⟩) ?_ ?_
                rotate_left
                · intro w'
                  go_simp
                  with_reducible rfl
                rotate_left
                · simp only [Act.put, List.setIfInBounds_toArray, List.set_cons_zero, List.set_cons_succ, i64_w, i32_w]
                  rfl
                refine pure_ (i := 1) (N := some 21) (v := ?_) (a' := ?_) #[true, true, false, false, false, false, false, false, false, false] rfl rfl (any_of HT_.out (by kernel_rfl)) (fun _ _ _ h => h) (Or.inl ⟨by rfl, ?_⟩) ?_ ?_
                rotate_left
                · intro w'
                  go_simp
                  with_reducible rfl
                rotate_left
                · simp only [Act.put, List.setIfInBounds_toArray, List.set_cons_zero, List.set_cons_succ, i64_w, i32_w]
                  rfl
                refine pure_ (i := 2) (N := some 22) (v := ?_) (a' := ?_) #[true, true, true, false, false, false, false, false, false, false] rfl rfl (any_of HT_.out (by kernel_rfl)) (fun _ _ _ h => h) (Or.inl ⟨by rfl, ?_⟩) ?_ ?_
                rotate_left
                · intro w'
                  go_simp
                  with_reducible rfl
                rotate_left
                · simp only [Act.put, List.setIfInBounds_toArray, List.set_cons_zero, List.set_cons_succ, i64_w, i32_w]
                  rfl
                refine pure_ (i := 6) (N := some 26) (v := ?_) (a' := ?_) #[true, true, true, false, false, false, true, false, false, false] rfl rfl (any_of HT_.out (by kernel_rfl)) (fun _ _ _ h => h) (Or.inl ⟨by rfl, ?_⟩) ?_ ?_
                rotate_left
                · intro w'
                  go_simp
                  with_reducible rfl
                rotate_left
                · simp only [Act.put, List.setIfInBounds_toArray, List.set_cons_zero, List.set_cons_succ, i64_w, i32_w]
                  rfl
                refine take_ (i := 3) (N := some 23) (v := ?_) (a' := ?_) #[true, true, true, true, false, false, true, false, false, false] rfl rfl (take_ofW HT_.out HW_.out (by kernel_rfl)) (fun _ _ _ h => h) (Or.inl ⟨by rfl, ?_⟩) hHeld ?_ ?_
                rotate_left
                · intro w' s0
                  go_simp
                  with_reducible rfl
                rotate_left
                · simp only [Act.put, List.setIfInBounds_toArray, List.set_cons_zero, List.set_cons_succ, i64_w, i32_w]
                  rfl
                refine pure_ (i := 4) (N := some 24) (v := ?_) (a' := ?_) #[true, true, true, true, true, false, true, false, false, false] rfl rfl (any_of HT_.out (by kernel_rfl)) (fun _ _ _ h => h) (Or.inl ⟨by rfl, ?_⟩) ?_ ?_
                rotate_left
                · intro w'
                  go_simp
                  with_reducible rfl
                rotate_left
                · simp only [Act.put, List.setIfInBounds_toArray, List.set_cons_zero, List.set_cons_succ, i64_w, i32_w]
                  rfl
                refine pure_ (i := 5) (N := some 25) (v := ?_) (a' := ?_) #[true, true, true, true, true, true, true, false, false, false] rfl rfl (any_of HT_.out (by kernel_rfl)) (fun _ _ _ h => h) (Or.inl ⟨by rfl, ?_⟩) ?_ ?_
                rotate_left
                · intro w'
                  go_simp
                  with_reducible rfl
                rotate_left
                · simp only [Act.put, List.setIfInBounds_toArray, List.set_cons_zero, List.set_cons_succ, i64_w, i32_w]
                  rfl
                refine take_ (i := 7) (N := some 27) (v := ?_) (a' := ?_) #[true, true, true, true, true, true, true, true, false, false] rfl rfl (take_ofW HT_.out HW_.out (by kernel_rfl)) (fun _ _ _ h => h) (Or.inl ⟨by rfl, ?_⟩) hHeld ?_ ?_
                rotate_left
                · intro w' s0
                  go_simp
                  with_reducible rfl
                rotate_left
                · simp only [Act.put, List.setIfInBounds_toArray, List.set_cons_zero, List.set_cons_succ, i64_w, i32_w]
                  rfl
                refine pure_ (i := 8) (N := some 28) (v := ?_) (a' := ?_) #[true, true, true, true, true, true, true, true, true, false] rfl rfl (any_of HT_.out (by kernel_rfl)) (fun _ _ _ h => h) (Or.inl ⟨by rfl, ?_⟩) ?_ ?_
                rotate_left
                · intro w'
                  go_simp
                  with_reducible rfl
                rotate_left
                · simp only [Act.put, List.setIfInBounds_toArray, List.set_cons_zero, List.set_cons_succ, i64_w, i32_w]
                  rfl
                refine pure_ (i := 9) (N := some 9) (v := ?_) (a' := ?_) #[true, true, true, true, true, true, true, true, true, true] rfl rfl (any_of HT_.out (by kernel_rfl)) (fun _ _ _ h => h) (Or.inl ⟨by rfl, ?_⟩) ?_ ?_
                rotate_left
                · intro w'
                  go_simp
                  with_reducible rfl
                rotate_left
                · simp only [Act.put, List.setIfInBounds_toArray, List.set_cons_zero, List.set_cons_succ, i64_w, i32_w]
                  rfl
                refine done_ (done_of HT_.out (by kernel_rfl)) ?_

                (try simp only [hwr])
                go_wp2
                replace HY := Aside0.mk (show _ from HY.out)
                go_roundg k1
                case measure => have := HQ.out; omega
                case rel => exact ⟨i + 1, i, (t - Int.tmod t (rd_T54 l i).f0 + (rd_T54 l i).f0), rfl, rfl, rfl, ⟨by omega⟩, H', ⟨by have := HQ.out; omega⟩, ⟨HY.out⟩, ⟨Kd.R_drew HR.out⟩, ⟨below_drew1 HB.out⟩, ⟨Kept.drew HK.out⟩⟩
              · rw [if_neg c6] at H
                have c6b : (o2 == -1) = false := beq_eq_false_iff_ne.mpr c6
                clear c6
                by_cases c7 : t - Int.tmod t (rd_T54 l i).f0 + (rd_T54 l i).f0 < d
                · rw [if_pos c7] at H
                  have c7b : decide (t - Int.tmod t (rd_T54 l i).f0 + (rd_T54 l i).f0 < d) = true := decide_eq_true c7
                  clear c7
                  have H' := Aside0.mk H
                  clear H
                  go_wp2_with (first | ((with_reducible refine gate_dst (N := 8) rfl ?_); refine box_event ?hg (N := 8) ?hd (cs := #[.int .i64 0, .int .i64 0]) (t := 54) ?hr ?_; (case hd => rfl); (case hg => rfl); (case hr => first | (go_simp; done) | (go_simp; rfl)); intro g6 hg w1 hbox hb; have GN := Aside0.mk (show w.heap.size ≤ g6 by rw [hg]; exact HK.out.1); have GB := Aside0.mk (show w00.heap.size ≤ g6 from Nat.le_trans (below_size hB00.out) GN.out); have NY := Aside0.mk (show gy ≠ g6 by have := blk_lt HY.out; omega); have H6 := Aside0.mk hbox; replace HY := Aside0.mk (blk_below HY.out hb); replace HR := Aside0.mk (Kd.R_below HR.out hb); replace HB := Aside0.mk (below_step HB.out hb); replace HK := Aside0.mk (Kept.below HK.out hb); clear hg hbox hb; have hc60 := (blk_cell H6.out 0).trans rfl; have hc61 := (blk_cell H6.out 1).trans rfl; have hf60 := blk_frozen H6.out 0; have hf61 := blk_frozen H6.out 1) | ((with_reducible refine gate_store (t := 54) (p := 8) rfl ?_); refine store_event (t := 54) (p := 8) (v := ?vo_) (w1 := (w1.setCell ⟨g6, 0, none⟩ (.int .i64 (rd_T54 l i).f0)).setCell ⟨g6, 1, none⟩ (.int .i64 (rd_T54 l i).f1)) ?hg ?ho ?hn ?hr ?_; (case ho => rfl); (case hg => rfl); (case hn => rfl); (case hr => first | (go_simp; done) | (go_simp; rfl)); intro w2 hw; have n0_ : Aside0 (w2.heap[g6]? = some (.cells #[.int .i64 (rd_T54 l i).f0, .int .i64 (rd_T54 l i).f1] 54 (0, 0))) := ⟨by rw [hw]; exact blk_set (blk_set H6.out 0 _) 1 _⟩; have n1_ : Aside0 (w2.heap[gy]? = some (.cells #[.slice (some ad) l.length cl, .slice (some ⟨g, 0, none⟩) ws.length c] 72 (0, 0))) := ⟨by rw [hw]; exact blk_far (blk_far HY.out NY.out _) NY.out _⟩; have n2_ : Aside0 (Kd.R (Kd.int .i64) 3 w2 w00.heap.size ok (.slice (some ⟨g, 0, none⟩) ws.length c) ws) := ⟨by rw [hw]; exact Kd.R_set (Kd.R_set HR.out H6.out (by decide) 0 _) (blk_set H6.out 0 _) (by decide) 1 _⟩; have n3_ : Aside0 (Below w00.heap.size w00 w2) := ⟨by rw [hw]; exact (HB.out.setCell GB.out _).setCell GB.out _⟩; have n4_ : Aside0 (Kept w w2 (fun k_ => some k_ = (Value.slice (some ⟨g, 0, none⟩) ws.length c).ownBlock)) := ⟨by rw [hw]; exact Kept.setCell (Kept.setCell HK.out (.inr GN.out) _) (.inr GN.out) _⟩; clear hw hc60 hc61 hf60 hf61 H6 HY HR HB HK; have H6 := n0_; have HY := n1_; have HR := n2_; have HB := n3_; have HK := n4_; clear n0_ n1_ n2_ n3_ n4_; have hc60 : w2.cell? ⟨g6, 0, none⟩ = some (.int .i64 (rd_T54 l i).f0) := (blk_cell H6.out 0).trans rfl; have hc61 : w2.cell? ⟨g6, 1, none⟩ = some (.int .i64 (rd_T54 l i).f1) := (blk_cell H6.out 1).trans rfl; have hcy0 : w2.cell? ⟨gy, 0, none⟩ = some (.slice (some ad) l.length cl) := (blk_cell HY.out 0).trans rfl; have hcy1 : w2.cell? ⟨gy, 1, none⟩ = some (.slice (some ⟨g, 0, none⟩) ws.length c) := (blk_cell HY.out 1).trans rfl; have hwq : w2.cell? ⟨g, i.toNat, none⟩ = some (.int .i64 (rd ws i)) := (Kd.R_celln 0 HR.out i hi0 c4).1))

                  refine start_ (n := 10) (S := fun w' => w'.cell? ⟨g6, 0, none⟩ = some (.int .i64 (rd_T54 l i).f0)) (ds := []) #[false, false, false, false, false, false, false, false, false, false] (by kernel_rfl) rfl rfl (hc60) (fun hHeld => ?_)
                  refine with_tabW synth_next.tab5 synth_next.bits5 (fun HT_ HW_ => ?_)
                  refine pure_ (i := 0) (N := some 20) (v := ?_) (a' := ?_) #[true, false, false, false, false, false, false, false, false, false] rfl rfl (any_of HT_.out (by kernel_rfl)) (fun _ _ _ h => h) (Or.inl ⟨by rfl, ?_⟩) ?_ ?_
                  rotate_left
                  · intro w'
                    go_simp
                    with_reducible rfl
                  rotate_left
                  · simp only [Act.put, List.setIfInBounds_toArray, List.set_cons_zero, List.set_cons_succ, i64_w, i32_w]
                    rfl
                  refine pure_ (i := 1) (N := some 21) (v := ?_) (a' := ?_) #[true, true, false, false, false, false, false, false, false, false] rfl rfl (any_of HT_.out (by kernel_rfl)) (fun _ _ _ h => h) (Or.inl ⟨by rfl, ?_⟩) ?_ ?_
                  rotate_left
                  · intro w'
                    go_simp
                    with_reducible rfl
                  rotate_left
                  · simp only [Act.put, List.setIfInBounds_toArray, List.set_cons_zero, List.set_cons_succ, i64_w, i32_w]
                    rfl
                  refine pure_ (i := 2) (N := some 22) (v := ?_) (a' := ?_) #[true, true, true, false, false, false, false, false, false, false] rfl rfl (any_of HT_.out (by kernel_rfl)) (fun _ _ _ h => h) (Or.inl ⟨by rfl, ?_⟩) ?_ ?_
                  rotate_left
                  · intro w'
                    go_simp
                    with_reducible rfl
                  rotate_left
                  · simp only [Act.put, List.setIfInBounds_toArray, List.set_cons_zero, List.set_cons_succ, i64_w, i32_w]
                    rfl
                  refine pure_ (i := 6) (N := some 26) (v := ?_) (a' := ?_) #[true, true, true, false, false, false, true, false, false, false] rfl rfl (any_of HT_.out (by kernel_rfl)) (fun _ _ _ h => h) (Or.inl ⟨by rfl, ?_⟩) ?_ ?_
                  rotate_left
                  · intro w'
                    go_simp
                    with_reducible rfl
                  rotate_left
                  · simp only [Act.put, List.setIfInBounds_toArray, List.set_cons_zero, List.set_cons_succ, i64_w, i32_w]
                    rfl
                  refine take_ (i := 3) (N := some 23) (v := ?_) (a' := ?_) #[true, true, true, true, false, false, true, false, false, false] rfl rfl (take_ofW HT_.out HW_.out (by kernel_rfl)) (fun _ _ _ h => h) (Or.inl ⟨by rfl, ?_⟩) hHeld ?_ ?_
                  rotate_left
                  · intro w' s0
                    go_simp
                    with_reducible rfl
                  rotate_left
                  · simp only [Act.put, List.setIfInBounds_toArray, List.set_cons_zero, List.set_cons_succ, i64_w, i32_w]
                    rfl
                  refine pure_ (i := 4) (N := some 24) (v := ?_) (a' := ?_) #[true, true, true, true, true, false, true, false, false, false] rfl rfl (any_of HT_.out (by kernel_rfl)) (fun _ _ _ h => h) (Or.inl ⟨by rfl, ?_⟩) ?_ ?_
                  rotate_left
                  · intro w'
                    go_simp
                    with_reducible rfl
                  rotate_left
                  · simp only [Act.put, List.setIfInBounds_toArray, List.set_cons_zero, List.set_cons_succ, i64_w, i32_w]
                    rfl
                  refine pure_ (i := 5) (N := some 25) (v := ?_) (a' := ?_) #[true, true, true, true, true, true, true, false, false, false] rfl rfl (any_of HT_.out (by kernel_rfl)) (fun _ _ _ h => h) (Or.inl ⟨by rfl, ?_⟩) ?_ ?_
                  rotate_left
                  · intro w'
                    go_simp
                    with_reducible rfl
                  rotate_left
                  · simp only [Act.put, List.setIfInBounds_toArray, List.set_cons_zero, List.set_cons_succ, i64_w, i32_w]
                    rfl
                  refine take_ (i := 7) (N := some 27) (v := ?_) (a' := ?_) #[true, true, true, true, true, true, true, true, false, false] rfl rfl (take_ofW HT_.out HW_.out (by kernel_rfl)) (fun _ _ _ h => h) (Or.inl ⟨by rfl, ?_⟩) hHeld ?_ ?_
                  rotate_left
                  · intro w' s0
                    go_simp
                    with_reducible rfl
                  rotate_left
                  · simp only [Act.put, List.setIfInBounds_toArray, List.set_cons_zero, List.set_cons_succ, i64_w, i32_w]
                    rfl
                  refine pure_ (i := 8) (N := some 28) (v := ?_) (a' := ?_) #[true, true, true, true, true, true, true, true, true, false] rfl rfl (any_of HT_.out (by kernel_rfl)) (fun _ _ _ h => h) (Or.inl ⟨by rfl, ?_⟩) ?_ ?_
                  rotate_left
                  · intro w'
                    go_simp
                    with_reducible rfl
                  rotate_left
                  · simp only [Act.put, List.setIfInBounds_toArray, List.set_cons_zero, List.set_cons_succ, i64_w, i32_w]
                    rfl
                  refine pure_ (i := 9) (N := some 9) (v := ?_) (a' := ?_) #[true, true, true, true, true, true, true, true, true, true] rfl rfl (any_of HT_.out (by kernel_rfl)) (fun _ _ _ h => h) (Or.inl ⟨by rfl, ?_⟩) ?_ ?_
                  rotate_left
                  · intro w'
                    go_simp
                    with_reducible rfl
                  rotate_left
                  · simp only [Act.put, List.setIfInBounds_toArray, List.set_cons_zero, List.set_cons_succ, i64_w, i32_w]
                    rfl
                  refine done_ (done_of HT_.out (by kernel_rfl)) ?_

                  (try simp only [hwr])
                  go_wp2
                  replace HY := Aside0.mk (show _ from HY.out)
                  go_roundg k1
                  case measure => have := HQ.out; omega
                  case rel => exact ⟨i + 1, i, (t - Int.tmod t (rd_T54 l i).f0 + (rd_T54 l i).f0), rfl, rfl, rfl, ⟨by omega⟩, H', ⟨by have := HQ.out; omega⟩, ⟨HY.out⟩, ⟨Kd.R_drew HR.out⟩, ⟨below_drew1 HB.out⟩, ⟨Kept.drew HK.out⟩⟩
                · rw [if_neg c7] at H
                  have c7b : decide (t - Int.tmod t (rd_T54 l i).f0 + (rd_T54 l i).f0 < d) = false := decide_eq_false c7
                  clear c7
                  have H' := Aside0.mk H
                  clear H
                  go_wp2_with (first | ((with_reducible refine gate_dst (N := 8) rfl ?_); refine box_event ?hg (N := 8) ?hd (cs := #[.int .i64 0, .int .i64 0]) (t := 54) ?hr ?_; (case hd => rfl); (case hg => rfl); (case hr => first | (go_simp; done) | (go_simp; rfl)); intro g6 hg w1 hbox hb; have GN := Aside0.mk (show w.heap.size ≤ g6 by rw [hg]; exact HK.out.1); have GB := Aside0.mk (show w00.heap.size ≤ g6 from Nat.le_trans (below_size hB00.out) GN.out); have NY := Aside0.mk (show gy ≠ g6 by have := blk_lt HY.out; omega); have H6 := Aside0.mk hbox; replace HY := Aside0.mk (blk_below HY.out hb); replace HR := Aside0.mk (Kd.R_below HR.out hb); replace HB := Aside0.mk (below_step HB.out hb); replace HK := Aside0.mk (Kept.below HK.out hb); clear hg hbox hb; have hc60 := (blk_cell H6.out 0).trans rfl; have hc61 := (blk_cell H6.out 1).trans rfl; have hf60 := blk_frozen H6.out 0; have hf61 := blk_frozen H6.out 1) | ((with_reducible refine gate_store (t := 54) (p := 8) rfl ?_); refine store_event (t := 54) (p := 8) (v := ?vo_) (w1 := (w1.setCell ⟨g6, 0, none⟩ (.int .i64 (rd_T54 l i).f0)).setCell ⟨g6, 1, none⟩ (.int .i64 (rd_T54 l i).f1)) ?hg ?ho ?hn ?hr ?_; (case ho => rfl); (case hg => rfl); (case hn => rfl); (case hr => first | (go_simp; done) | (go_simp; rfl)); intro w2 hw; have n0_ : Aside0 (w2.heap[g6]? = some (.cells #[.int .i64 (rd_T54 l i).f0, .int .i64 (rd_T54 l i).f1] 54 (0, 0))) := ⟨by rw [hw]; exact blk_set (blk_set H6.out 0 _) 1 _⟩; have n1_ : Aside0 (w2.heap[gy]? = some (.cells #[.slice (some ad) l.length cl, .slice (some ⟨g, 0, none⟩) ws.length c] 72 (0, 0))) := ⟨by rw [hw]; exact blk_far (blk_far HY.out NY.out _) NY.out _⟩; have n2_ : Aside0 (Kd.R (Kd.int .i64) 3 w2 w00.heap.size ok (.slice (some ⟨g, 0, none⟩) ws.length c) ws) := ⟨by rw [hw]; exact Kd.R_set (Kd.R_set HR.out H6.out (by decide) 0 _) (blk_set H6.out 0 _) (by decide) 1 _⟩; have n3_ : Aside0 (Below w00.heap.size w00 w2) := ⟨by rw [hw]; exact (HB.out.setCell GB.out _).setCell GB.out _⟩; have n4_ : Aside0 (Kept w w2 (fun k_ => some k_ = (Value.slice (some ⟨g, 0, none⟩) ws.length c).ownBlock)) := ⟨by rw [hw]; exact Kept.setCell (Kept.setCell HK.out (.inr GN.out) _) (.inr GN.out) _⟩; clear hw hc60 hc61 hf60 hf61 H6 HY HR HB HK; have H6 := n0_; have HY := n1_; have HR := n2_; have HB := n3_; have HK := n4_; clear n0_ n1_ n2_ n3_ n4_; have hc60 : w2.cell? ⟨g6, 0, none⟩ = some (.int .i64 (rd_T54 l i).f0) := (blk_cell H6.out 0).trans rfl; have hc61 : w2.cell? ⟨g6, 1, none⟩ = some (.int .i64 (rd_T54 l i).f1) := (blk_cell H6.out 1).trans rfl; have hcy0 : w2.cell? ⟨gy, 0, none⟩ = some (.slice (some ad) l.length cl) := (blk_cell HY.out 0).trans rfl; have hcy1 : w2.cell? ⟨gy, 1, none⟩ = some (.slice (some ⟨g, 0, none⟩) ws.length c) := (blk_cell HY.out 1).trans rfl; have hwq : w2.cell? ⟨g, i.toNat, none⟩ = some (.int .i64 (rd ws i)) := (Kd.R_celln 0 HR.out i hi0 c4).1))

                  refine start_ (n := 10) (S := fun w' => w'.cell? ⟨g6, 0, none⟩ = some (.int .i64 (rd_T54 l i).f0)) (ds := []) #[false, false, false, false, false, false, false, false, false, false] (by kernel_rfl) rfl rfl (hc60) (fun hHeld => ?_)
                  refine with_tabW synth_next.tab5 synth_next.bits5 (fun HT_ HW_ => ?_)
                  refine pure_ (i := 0) (N := some 20) (v := ?_) (a' := ?_) #[true, false, false, false, false, false, false, false, false, false] rfl rfl (any_of HT_.out (by kernel_rfl)) (fun _ _ _ h => h) (Or.inl ⟨by rfl, ?_⟩) ?_ ?_
                  rotate_left
                  · intro w'
                    go_simp
                    with_reducible rfl
                  rotate_left
                  · simp only [Act.put, List.setIfInBounds_toArray, List.set_cons_zero, List.set_cons_succ, i64_w, i32_w]
                    rfl
                  refine pure_ (i := 1) (N := some 21) (v := ?_) (a' := ?_) #[true, true, false, false, false, false, false, false, false, false] rfl rfl (any_of HT_.out (by kernel_rfl)) (fun _ _ _ h => h) (Or.inl ⟨by rfl, ?_⟩) ?_ ?_
                  rotate_left
                  · intro w'
                    go_simp
                    with_reducible rfl
                  rotate_left
                  · simp only [Act.put, List.setIfInBounds_toArray, List.set_cons_zero, List.set_cons_succ, i64_w, i32_w]
                    rfl
                  refine pure_ (i := 2) (N := some 22) (v := ?_) (a' := ?_) #[true, true, true, false, false, false, false, false, false, false] rfl rfl (any_of HT_.out (by kernel_rfl)) (fun _ _ _ h => h) (Or.inl ⟨by rfl, ?_⟩) ?_ ?_
                  rotate_left
                  · intro w'
                    go_simp
                    with_reducible rfl
                  rotate_left
                  · simp only [Act.put, List.setIfInBounds_toArray, List.set_cons_zero, List.set_cons_succ, i64_w, i32_w]
                    rfl
                  refine pure_ (i := 6) (N := some 26) (v := ?_) (a' := ?_) #[true, true, true, false, false, false, true, false, false, false] rfl rfl (any_of HT_.out (by kernel_rfl)) (fun _ _ _ h => h) (Or.inl ⟨by rfl, ?_⟩) ?_ ?_
                  rotate_left
                  · intro w'
                    go_simp
                    with_reducible rfl
                  rotate_left
                  · simp only [Act.put, List.setIfInBounds_toArray, List.set_cons_zero, List.set_cons_succ, i64_w, i32_w]
                    rfl
                  refine take_ (i := 3) (N := some 23) (v := ?_) (a' := ?_) #[true, true, true, true, false, false, true, false, false, false] rfl rfl (take_ofW HT_.out HW_.out (by kernel_rfl)) (fun _ _ _ h => h) (Or.inl ⟨by rfl, ?_⟩) hHeld ?_ ?_
                  rotate_left
                  · intro w' s0
                    go_simp
                    with_reducible rfl
                  rotate_left
                  · simp only [Act.put, List.setIfInBounds_toArray, List.set_cons_zero, List.set_cons_succ, i64_w, i32_w]
                    rfl
                  refine pure_ (i := 4) (N := some 24) (v := ?_) (a' := ?_) #[true, true, true, true, true, false, true, false, false, false] rfl rfl (any_of HT_.out (by kernel_rfl)) (fun _ _ _ h => h) (Or.inl ⟨by rfl, ?_⟩) ?_ ?_
                  rotate_left
                  · intro w'
                    go_simp
                    with_reducible rfl
                  rotate_left
                  · simp only [Act.put, List.setIfInBounds_toArray, List.set_cons_zero, List.set_cons_succ, i64_w, i32_w]
                    rfl
                  refine pure_ (i := 5) (N := some 25) (v := ?_) (a' := ?_) #[true, true, true, true, true, true, true, false, false, false] rfl rfl (any_of HT_.out (by kernel_rfl)) (fun _ _ _ h => h) (Or.inl ⟨by rfl, ?_⟩) ?_ ?_
                  rotate_left
                  · intro w'
                    go_simp
                    with_reducible rfl
                  rotate_left
                  · simp only [Act.put, List.setIfInBounds_toArray, List.set_cons_zero, List.set_cons_succ, i64_w, i32_w]
                    rfl
                  refine take_ (i := 7) (N := some 27) (v := ?_) (a' := ?_) #[true, true, true, true, true, true, true, true, false, false] rfl rfl (take_ofW HT_.out HW_.out (by kernel_rfl)) (fun _ _ _ h => h) (Or.inl ⟨by rfl, ?_⟩) hHeld ?_ ?_
                  rotate_left
                  · intro w' s0
                    go_simp
                    with_reducible rfl
                  rotate_left
                  · simp only [Act.put, List.setIfInBounds_toArray, List.set_cons_zero, List.set_cons_succ, i64_w, i32_w]
                    rfl
                  refine pure_ (i := 8) (N := some 28) (v := ?_) (a' := ?_) #[true, true, true, true, true, true, true, true, true, false] rfl rfl (any_of HT_.out (by kernel_rfl)) (fun _ _ _ h => h) (Or.inl ⟨by rfl, ?_⟩) ?_ ?_
                  rotate_left
                  · intro w'
                    go_simp
                    with_reducible rfl
                  rotate_left
                  · simp only [Act.put, List.setIfInBounds_toArray, List.set_cons_zero, List.set_cons_succ, i64_w, i32_w]
                    rfl
                  refine pure_ (i := 9) (N := some 9) (v := ?_) (a' := ?_) #[true, true, true, true, true, true, true, true, true, true] rfl rfl (any_of HT_.out (by kernel_rfl)) (fun _ _ _ h => h) (Or.inl ⟨by rfl, ?_⟩) ?_ ?_
                  rotate_left
                  · intro w'
                    go_simp
                    with_reducible rfl
                  rotate_left
                  · simp only [Act.put, List.setIfInBounds_toArray, List.set_cons_zero, List.set_cons_succ, i64_w, i32_w]
                    rfl
                  refine done_ (done_of HT_.out (by kernel_rfl)) ?_

                  (try simp only [hwr])
                  go_wp2
                  replace HY := Aside0.mk (show _ from HY.out)
                  go_roundg k1
                  case measure => have := HQ.out; omega
                  case rel => exact ⟨i + 1, o2, d, rfl, rfl, rfl, ⟨by omega⟩, H', ⟨by have := HQ.out; omega⟩, ⟨HY.out⟩, ⟨Kd.R_drew HR.out⟩, ⟨below_drew1 HB.out⟩, ⟨Kept.drew HK.out⟩⟩
            · rw [if_neg c5] at H
              have c5b : decide (0 < rd ws i) = false := decide_eq_false c5
              clear c5
              have H' := Aside0.mk H
              clear H
              go_wp2_with (first | ((with_reducible refine gate_dst (N := 8) rfl ?_); refine box_event ?hg (N := 8) ?hd (cs := #[.int .i64 0, .int .i64 0]) (t := 54) ?hr ?_; (case hd => rfl); (case hg => rfl); (case hr => first | (go_simp; done) | (go_simp; rfl)); intro g6 hg w1 hbox hb; have GN := Aside0.mk (show w.heap.size ≤ g6 by rw [hg]; exact HK.out.1); have GB := Aside0.mk (show w00.heap.size ≤ g6 from Nat.le_trans (below_size hB00.out) GN.out); have NY := Aside0.mk (show gy ≠ g6 by have := blk_lt HY.out; omega); have H6 := Aside0.mk hbox; replace HY := Aside0.mk (blk_below HY.out hb); replace HR := Aside0.mk (Kd.R_below HR.out hb); replace HB := Aside0.mk (below_step HB.out hb); replace HK := Aside0.mk (Kept.below HK.out hb); clear hg hbox hb; have hc60 := (blk_cell H6.out 0).trans rfl; have hc61 := (blk_cell H6.out 1).trans rfl; have hf60 := blk_frozen H6.out 0; have hf61 := blk_frozen H6.out 1) | ((with_reducible refine gate_store (t := 54) (p := 8) rfl ?_); refine store_event (t := 54) (p := 8) (v := ?vo_) (w1 := (w1.setCell ⟨g6, 0, none⟩ (.int .i64 (rd_T54 l i).f0)).setCell ⟨g6, 1, none⟩ (.int .i64 (rd_T54 l i).f1)) ?hg ?ho ?hn ?hr ?_; (case ho => rfl); (case hg => rfl); (case hn => rfl); (case hr => first | (go_simp; done) | (go_simp; rfl)); intro w2 hw; have n0_ : Aside0 (w2.heap[g6]? = some (.cells #[.int .i64 (rd_T54 l i).f0, .int .i64 (rd_T54 l i).f1] 54 (0, 0))) := ⟨by rw [hw]; exact blk_set (blk_set H6.out 0 _) 1 _⟩; have n1_ : Aside0 (w2.heap[gy]? = some (.cells #[.slice (some ad) l.length cl, .slice (some ⟨g, 0, none⟩) ws.length c] 72 (0, 0))) := ⟨by rw [hw]; exact blk_far (blk_far HY.out NY.out _) NY.out _⟩; have n2_ : Aside0 (Kd.R (Kd.int .i64) 3 w2 w00.heap.size ok (.slice (some ⟨g, 0, none⟩) ws.length c) ws) := ⟨by rw [hw]; exact Kd.R_set (Kd.R_set HR.out H6.out (by decide) 0 _) (blk_set H6.out 0 _) (by decide) 1 _⟩; have n3_ : Aside0 (Below w00.heap.size w00 w2) := ⟨by rw [hw]; exact (HB.out.setCell GB.out _).setCell GB.out _⟩; have n4_ : Aside0 (Kept w w2 (fun k_ => some k_ = (Value.slice (some ⟨g, 0, none⟩) ws.length c).ownBlock)) := ⟨by rw [hw]; exact Kept.setCell (Kept.setCell HK.out (.inr GN.out) _) (.inr GN.out) _⟩; clear hw hc60 hc61 hf60 hf61 H6 HY HR HB HK; have H6 := n0_; have HY := n1_; have HR := n2_; have HB := n3_; have HK := n4_; clear n0_ n1_ n2_ n3_ n4_; have hc60 : w2.cell? ⟨g6, 0, none⟩ = some (.int .i64 (rd_T54 l i).f0) := (blk_cell H6.out 0).trans rfl; have hc61 : w2.cell? ⟨g6, 1, none⟩ = some (.int .i64 (rd_T54 l i).f1) := (blk_cell H6.out 1).trans rfl; have hcy0 : w2.cell? ⟨gy, 0, none⟩ = some (.slice (some ad) l.length cl) := (blk_cell HY.out 0).trans rfl; have hcy1 : w2.cell? ⟨gy, 1, none⟩ = some (.slice (some ⟨g, 0, none⟩) ws.length c) := (blk_cell HY.out 1).trans rfl; have hwq : w2.cell? ⟨g, i.toNat, none⟩ = some (.int .i64 (rd ws i)) := (Kd.R_celln 0 HR.out i hi0 c4).1))

              refine start_ (n := 10) (S := fun w' => w'.cell? ⟨g6, 0, none⟩ = some (.int .i64 (rd_T54 l i).f0)) (ds := []) #[false, false, false, false, false, false, false, false, false, false] (by kernel_rfl) rfl rfl (hc60) (fun hHeld => ?_)
              refine with_tabW synth_next.tab5 synth_next.bits5 (fun HT_ HW_ => ?_)
              refine pure_ (i := 0) (N := some 20) (v := ?_) (a' := ?_) #[true, false, false, false, false, false, false, false, false, false] rfl rfl (any_of HT_.out (by kernel_rfl)) (fun _ _ _ h => h) (Or.inl ⟨by rfl, ?_⟩) ?_ ?_
              rotate_left
              · intro w'
                go_simp
                with_reducible rfl
              rotate_left
              · simp only [Act.put, List.setIfInBounds_toArray, List.set_cons_zero, List.set_cons_succ, i64_w, i32_w]
                rfl
              refine pure_ (i := 1) (N := some 21) (v := ?_) (a' := ?_) #[true, true, false, false, false, false, false, false, false, false] rfl rfl (any_of HT_.out (by kernel_rfl)) (fun _ _ _ h => h) (Or.inl ⟨by rfl, ?_⟩) ?_ ?_
              rotate_left
              · intro w'
                go_simp
                with_reducible rfl
              rotate_left
              · simp only [Act.put, List.setIfInBounds_toArray, List.set_cons_zero, List.set_cons_succ, i64_w, i32_w]
                rfl
              refine pure_ (i := 2) (N := some 22) (v := ?_) (a' := ?_) #[true, true, true, false, false, false, false, false, false, false] rfl rfl (any_of HT_.out (by kernel_rfl)) (fun _ _ _ h => h) (Or.inl ⟨by rfl, ?_⟩) ?_ ?_
              rotate_left
              · intro w'
                go_simp
                with_reducible rfl
              rotate_left
              · simp only [Act.put, List.setIfInBounds_toArray, List.set_cons_zero, List.set_cons_succ, i64_w, i32_w]
                rfl
              refine pure_ (i := 6) (N := some 26) (v := ?_) (a' := ?_) #[true, true, true, false, false, false, true, false, false, false] rfl rfl (any_of HT_.out (by kernel_rfl)) (fun _ _ _ h => h) (Or.inl ⟨by rfl, ?_⟩) ?_ ?_
              rotate_left
              · intro w'
                go_simp
                with_reducible rfl
              rotate_left
              · simp only [Act.put, List.setIfInBounds_toArray, List.set_cons_zero, List.set_cons_succ, i64_w, i32_w]
                rfl
              refine take_ (i := 3) (N := some 23) (v := ?_) (a' := ?_) #[true, true, true, true, false, false, true, false, false, false] rfl rfl (take_ofW HT_.out HW_.out (by kernel_rfl)) (fun _ _ _ h => h) (Or.inl ⟨by rfl, ?_⟩) hHeld ?_ ?_
              rotate_left
              · intro w' s0
                go_simp
                with_reducible rfl
              rotate_left
              · simp only [Act.put, List.setIfInBounds_toArray, List.set_cons_zero, List.set_cons_succ, i64_w, i32_w]
                rfl
              refine pure_ (i := 4) (N := some 24) (v := ?_) (a' := ?_) #[true, true, true, true, true, false, true, false, false, false] rfl rfl (any_of HT_.out (by kernel_rfl)) (fun _ _ _ h => h) (Or.inl ⟨by rfl, ?_⟩) ?_ ?_
              rotate_left
              · intro w'
                go_simp
                with_reducible rfl
              rotate_left
              · simp only [Act.put, List.setIfInBounds_toArray, List.set_cons_zero, List.set_cons_succ, i64_w, i32_w]
                rfl
              refine pure_ (i := 5) (N := some 25) (v := ?_) (a' := ?_) #[true, true, true, true, true, true, true, false, false, false] rfl rfl (any_of HT_.out (by kernel_rfl)) (fun _ _ _ h => h) (Or.inl ⟨by rfl, ?_⟩) ?_ ?_
              rotate_left
              · intro w'
                go_simp
                with_reducible rfl
              rotate_left
              · simp only [Act.put, List.setIfInBounds_toArray, List.set_cons_zero, List.set_cons_succ, i64_w, i32_w]
                rfl
              refine take_ (i := 7) (N := some 27) (v := ?_) (a' := ?_) #[true, true, true, true, true, true, true, true, false, false] rfl rfl (take_ofW HT_.out HW_.out (by kernel_rfl)) (fun _ _ _ h => h) (Or.inl ⟨by rfl, ?_⟩) hHeld ?_ ?_
              rotate_left
              · intro w' s0
                go_simp
                with_reducible rfl
              rotate_left
              · simp only [Act.put, List.setIfInBounds_toArray, List.set_cons_zero, List.set_cons_succ, i64_w, i32_w]
                rfl
              refine pure_ (i := 8) (N := some 28) (v := ?_) (a' := ?_) #[true, true, true, true, true, true, true, true, true, false] rfl rfl (any_of HT_.out (by kernel_rfl)) (fun _ _ _ h => h) (Or.inl ⟨by rfl, ?_⟩) ?_ ?_
              rotate_left
              · intro w'
                go_simp
                with_reducible rfl
              rotate_left
              · simp only [Act.put, List.setIfInBounds_toArray, List.set_cons_zero, List.set_cons_succ, i64_w, i32_w]
                rfl
              refine pure_ (i := 9) (N := some 9) (v := ?_) (a' := ?_) #[true, true, true, true, true, true, true, true, true, true] rfl rfl (any_of HT_.out (by kernel_rfl)) (fun _ _ _ h => h) (Or.inl ⟨by rfl, ?_⟩) ?_ ?_
              rotate_left
              · intro w'
                go_simp
                with_reducible rfl
              rotate_left
              · simp only [Act.put, List.setIfInBounds_toArray, List.set_cons_zero, List.set_cons_succ, i64_w, i32_w]
                rfl
              refine done_ (done_of HT_.out (by kernel_rfl)) ?_

              (try simp only [hwr])
              go_wp2
              replace HY := Aside0.mk (show _ from HY.out)
              go_roundg k1
              case measure => have := HQ.out; omega
              case rel => exact ⟨i + 1, o2, d, rfl, rfl, rfl, ⟨by omega⟩, H', ⟨by have := HQ.out; omega⟩, ⟨HY.out⟩, ⟨Kd.R_drew HR.out⟩, ⟨below_drew1 HB.out⟩, ⟨Kept.drew HK.out⟩⟩
          · rw [if_neg c4] at H
            exact absurd H (by simp)
        · rw [if_neg c2] at H
          exact absurd H (by simp)
      · rw [if_neg c1] at H
        have c1b : decide (i < (l.length : Int)) = false := decide_eq_false c1
        obtain rfl : o2 = o1 := by simpa using H
        clear H
        have hE := HE.out
        clear HE
        by_cases c8 : o2 = -1
        · rw [if_pos c8] at hE
          obtain ⟨rfl, rfl⟩ : -1 = o ∧ ws = ws' := by simpa using hE
          subst c8
          clear hE
          go_wp2
          go_ret
          exact ⟨rfl, HY.out, HB.out, HK.out, HR.out⟩
        · rw [if_neg c8] at hE
          have c8b : (o2 != -1) = true := bne_iff_ne.mpr c8
          by_cases c9 : 0 ≤ o2 ∧ o2 < (ws.length : Int) ∧ 0 ≤ rd ws o2 ∧ rd ws o2 ≤ 1000000
          · rw [if_pos c9] at hE
            obtain ⟨rfl, rfl⟩ : o2 = o ∧ ws.set o2.toNat (rd ws o2 - 1) = ws' := by simpa using hE
            clear hE
            obtain ⟨b1, b2, b3, b4⟩ := c9
            obtain ⟨g, cap, he, hg0, hglt, cells, hgc⟩ := Kd.R_form HR.out (by omega)
            obtain ⟨eA, _, ec⟩ : A = some ⟨g, 0, none⟩ ∧ True ∧ c = cap := by injection he with e1 e2 e3; exact ⟨e1, trivial, e3⟩
            subst eA
            subst ec
            clear he hgc hglt cells
            have q1 := eq_true b1
            have q2 := eq_true b2
            have hfq : wr.frozen? ⟨g, o2.toNat, none⟩ = false := (Kd.R_celln 0 HR.out o2 b1 b2).2
            have hcq : wr.cell? ⟨g, o2.toNat, none⟩ = some (.int .i64 (rd ws o2)) := (Kd.R_celln 0 HR.out o2 b1 b2).1
            obtain ⟨x, ex⟩ : ∃ x, x = rd ws o2 := ⟨_, rfl⟩
            rw [← ex] at b3 b4 hcq
            try rw [← ex]
            have EX := Aside0.mk ex
            clear ex
            go_wp2
            go_ret
            have hgy2 : gy ≠ g := fun e => by have := Kd.R_ne HR.out HY.out (by decide); exact this (by rw [e]; rfl)
            exact ⟨rfl, blk_far HY.out (p := ⟨g, o2.toNat, none⟩) hgy2 _, HB.out.setCell (p := ⟨g, o2.toNat, none⟩) hg0 _, Kept.setCell HK.out (p := ⟨g, o2.toNat, none⟩) (.inl rfl) _, by rw [← EX.out]; exact (Kd.R_putg HR.out o2 (x - 1)).1⟩
          · rw [if_neg c9] at hE
            exact absurd hE (by simp)
def synth_Lay.l0 : Nat → List S54 → Int → Int → List Int → List Int → Option (List Int × Int)
  | 0, _, _, _, _, _ => none
  | k + 1, l, fr, t, ws, out => if t < fr then ((synth_begin.l0 k l t 0 ws).bind fun b => if b.1 = true then ((synth_next.f k l b.2 t).bind fun o => if out.length < 1000000 then synth_Lay.l0 k l fr (t + 1) o.2 (out ++ [o.1]) else none) else some ([], 7)) else ((synth_begin.l0 k l fr 0 ws).bind fun b => if b.1 = true then some (out, 0) else some ([], 7))
theorem synth_Lay.mono_l : ∀ k, (∀ y0 y1 y2 y3 y4, LeO (synth_Lay.l0 k y0 y1 y2 y3 y4) (synth_Lay.l0 (k + 1) y0 y1 y2 y3 y4))
  | 0 => fun _ _ _ _ _ r h => by simp [synth_Lay.l0] at h
  | k + 1 => by
    have ih0 := synth_Lay.mono_l k
    intro y0 y1 y2 y3 y4
    unfold synth_Lay.l0
    exact LeO.ite (LeO.bind (synth_begin.mono k _ _ _ _) (fun _ => LeO.ite (LeO.bind (synth_next.mono _ _ _ k) (fun _ => LeO.ite (ih0 _ _ _ _ _) (LeO.none _))) (LeO.refl _))) (LeO.bind (synth_begin.mono k _ _ _ _) (fun _ => LeO.refl _))
def synth_Lay.f (k : Nat) (l0 : List S54) : Option (List Int × Int) := (synth_Frame.f k l0).bind fun b => if b.2 = 0 then (if l0.length < 1000000 then (if b.1 < 1000000 then synth_Lay.l0 k l0 b.1 0 (List.replicate l0.length 0) [] else none) else none) else some ([], b.2)
theorem synth_Lay.mono : ∀ a0 k, LeO (synth_Lay.f k a0) (synth_Lay.f (k + 1) a0) := fun a0 k => LeO.bind (synth_Frame.mono _ k) (fun _ => LeO.ite (LeO.ite (LeO.ite (synth_Lay.mono_l k _ _ _ _ _) (LeO.none _)) (LeO.none _)) (LeO.refl _))
set_option maxHeartbeats 4000000 in
set_option maxRecDepth 100000 in
theorem synth_Lay.calls (k : Nat) (A0 : Option Addr) (c0 : Nat) (l0 : List (S54)) (r1 : List Int) (r2 : Int) (w : World) (hr0 : Kd.C k54 w A0 l0.length l0) (hc0 : l0.length ≤ c0) (h : synth_Lay.f k l0 = some (r1, r2)) :
    Calls Try.prog 26 #[.slice A0 l0.length c0] w fun e w' => ∃ v0_ : Value, e = .returned (.tuple #[v0_, .int .i64 r2]) ∧ Kd.R (Kd.int .i64) 3 w' w.heap.size (fun _ => True) v0_ r1 ∧ Below w.heap.size w w' := by
  have hu54 := Try.underlying54
  have hu72 := Try.underlying72
  have HR0 := Aside0.mk hr0
  have HC0 := Aside0.mk hc0
  clear hr0 hc0
  have HB := Aside0.mk (Below.refl w.heap.size w)
  have hmf : ∀ (fn : Fn) (first cap : Array Value) (w : World), (Instr.makeFunc fn first cap).run Try.prog w = .ok (.func fn first cap) w := fun _ _ _ _ => rfl
  unfold synth_Lay.f at h
  obtain ⟨⟨fr, e2⟩, hf, h⟩ := Option.bind_eq_some_iff.mp h
  replace h : (if e2 = 0 then (if l0.length < 1000000 then (if fr < 1000000 then synth_Lay.l0 k l0 fr 0 (List.replicate l0.length 0) [] else none) else none) else some ([], e2)) = some (r1, r2) := h
  have HF := Aside0.mk hf
  clear hf
  by_cases c1 : e2 = 0
  · rw [if_pos c1] at h
    have c1b : (e2 == 0) = true := beq_iff_eq.mpr c1
    have c1b1 : (e2 != 0) = false := bne_eq_false_iff_eq.mpr c1
    clear c1
    by_cases hll : l0.length < 1000000
    · rw [if_pos hll] at h
      by_cases hfr : fr < 1000000
      · rw [if_pos hfr] at h
        have H' := Aside0.mk h
        clear h
        have hrl : (List.replicate l0.length (0 : Int)).length = l0.length := List.length_replicate
        go_enter Try.func26, Try.ntmps26
        go_wp2_with (first | (go_at_call 28; (with_reducible refine (synth_Frame.calls k _ _ l0 fr e2 _ HR0.out HC0.out HF.out).mono ?_); rintro e w1 ⟨rfl, hb⟩; replace HB := Aside0.mk hb; clear hb) | ((with_reducible refine gate_dst (N := 22) rfl ?_); refine Kd.R_make (Kd.int .i64) (w0 := w) w.heap.size 3 rfl (N := 22) rfl 26 _ _ rfl (l0.length : Int) rfl rfl Try.underlying26 (.int .i64 0) 8 info3 rfl (by decide) (by omega) 0 (ok := fun _ => True) (okp := fun _ => True) rfl (fun _ hk => hk) trivial (by omega) (by omega) HB.out (below_size HB.out) ?_; intro v1 w2 ho hb hg hat; rw [Int.toNat_natCast] at ho; have HW := Aside0.mk (Kd.R_tight rfl ho); obtain ⟨A1, c1, e1⟩ := Kd.R_slice ho; subst e1; replace HB := Aside0.mk hb; clear ho hb hg hat) | ((with_reducible refine gate_dst (N := 24) rfl ?_); refine box_event ?hg (N := 24) ?hd (cs := #[.slice A0 l0.length c0, .slice A1 (List.replicate l0.length (0 : Int)).length c1]) (t := 72) ?hr ?_; (case hd => rfl); (case hg => rfl); (case hr => first | (go_simp; done) | (go_simp; rfl)); intro gy hg w3 hbox hb; have HY := Aside0.mk hbox; replace HW := Aside0.mk (Kd.R_below HW.out hb); replace HB := Aside0.mk (below_step HB.out hb); clear hg hbox hb))
        rw [hrl] at HY HW
        clear c1b c1b1 HF
        go_loopg [9, 30] k (fun kq v9 v30 w' => ∃ (t : Int) (ws out : List Int) (v : Value), v9 = v ∧ v30 = .int .i64 t ∧ Aside0 (0 ≤ t ∧ (t ≤ fr ∨ t = 0) ∧ ws.length = l0.length) ∧ Aside0 (synth_Lay.l0 kq l0 fr t ws out = some (r1, r2)) ∧ Aside0 (kq ≤ k) ∧ Aside0 (w'.heap[gy]? = some (.cells #[.slice A0 l0.length c0, .slice A1 l0.length c1] 72 (0, 0))) ∧ Aside0 (Kd.R (Kd.int .i64) 3 w' w.heap.size (fun k_ => some k_ = (Value.slice A1 l0.length c1).ownBlock) (.slice A1 l0.length c1) ws) ∧ Aside0 (Kd.R (Kd.int .i64) 3 w' w.heap.size (fun k_ => some k_ ≠ (Value.slice A1 l0.length c1).ownBlock) v out) ∧ Aside0 (Below w.heap.size w w'))
        case atStart => exact ⟨0, _, [], _, rfl, rfl, ⟨by rw [hrl]; omega⟩, H', ⟨Nat.le_refl _⟩, HY, HW, ⟨Kd.R_nil _ _ _ _ _⟩, HB⟩
        case round =>
          clear H' HY HW HB hrl
          obtain ⟨t, ws, out, v, rfl, rfl, HT, HA, HQ, HY, HW, HO, HB⟩ := hrel
          obtain ⟨ht0, ht1, hwl⟩ := HT.out
          cases gk with
          | zero => exact absurd HA.out (by simp [synth_Lay.l0])
          | succ k1 =>
            have H := HA.out
            clear HA
            simp only [synth_Lay.l0] at H
            obtain ⟨Ao, co, eo⟩ := Kd.R_slice HO.out
            subst eo
            by_cases c2 : t < fr
            · rw [if_pos c2] at H
              have c2b : decide (t < fr) = true := decide_eq_true c2
              obtain ⟨⟨q1b, ws1⟩, hg, H⟩ := Option.bind_eq_some_iff.mp H
              replace H : (if q1b = true then ((synth_next.f k1 l0 ws1 t).bind fun o => if out.length < 1000000 then synth_Lay.l0 k1 l0 fr (t + 1) o.2 (out ++ [o.1]) else none) else some ([], 7)) = some (r1, r2) := H
              have HG := Aside0.mk hg
              clear hg
              by_cases c3 : q1b = true
              · subst c3
                rw [if_pos rfl] at H
                obtain ⟨⟨o2, ws2⟩, hn, H⟩ := Option.bind_eq_some_iff.mp H
                replace H : (if out.length < 1000000 then synth_Lay.l0 k1 l0 fr (t + 1) ws2 (out ++ [o2]) else none) = some (r1, r2) := H
                have HN := Aside0.mk hn
                clear hn
                by_cases c4 : out.length < 1000000
                · rw [if_pos c4] at H
                  have H' := Aside0.mk H
                  clear H
                  go_wp2_with (first | (go_at_call 39; (with_reducible refine (synth_begin.calls k1 l0 t ws gy A0 c0 (fun k_ => some k_ = (Value.slice A1 l0.length c1).ownBlock) _ w _ HY.out HR0.out HB.out HW.out hll true ws1 HG.out).mono ?_); rintro e w5 ⟨rfl, h1, h2, h3, h4⟩; replace HO := Aside0.mk (Kd.R_kept HO.out h3 (fun _ h => h)); replace HY := Aside0.mk h1; replace HB := Aside0.mk h2; replace HW := Aside0.mk h4; clear h1 h2 h3 h4) | (go_at_call 40; (with_reducible refine (synth_next.calls k1 l0 t ws1 gy A0 c0 (fun k_ => some k_ = (Value.slice A1 l0.length c1).ownBlock) _ w _ HY.out HR0.out HB.out HW.out hll o2 ws2 HN.out).mono ?_); rintro e w6 ⟨rfl, h1, h2, h3, h4⟩; replace HO := Aside0.mk (Kd.R_kept HO.out h3 (fun _ h => h)); replace HY := Aside0.mk h1; replace HB := Aside0.mk h2; replace HW := Aside0.mk h4; clear h1 h2 h3 h4) | ((with_reducible refine gate_builtin (b := .append) (xs := #[.tmp 37, .tmp 41]) rfl ?_); at_builtin; refine Kd.R_append (Kd.int .i64) (w0 := w) w.heap.size rfl (.tmp 37) (.tmp 41) 26 3 (.int .i64 0) 8 rfl Try.underlying26 info3 rfl (by decide) (by omega) (.slice Ao out.length co) out o2 [.int .i64 o2] (fun k_ => some k_ ≠ (Value.slice A1 l0.length c1).ownBlock) (fun _ => False) rfl rfl rfl (fun _ hk => hk.elim) ?aF HO.out HB.out (below_size HB.out) ?aL ?_; (case aF => exact fun k_ hk e => by have h_ := Kd.R_typed HW.out k_ e.symm; obtain ⟨_, h_⟩ := h_; have := blk_lt h_; omega); (case aL => omega); intro v1 w7 ho hbb hg hat; replace HY := Aside0.mk (blk_grown HY.out hg (Kd.R_ne HO.out HY.out (by decide))); replace HW := Aside0.mk (Kd.R_grown HW.out hg (fun k_ hk e => HO.out.1 k_ e.symm hk)); replace HO := Aside0.mk ho; replace HB := Aside0.mk hbb; clear ho hbb hg hat))
                  go_roundg k1
                  case measure => have := HQ.out; omega
                  case rel => exact ⟨t + 1, ws2, out ++ [o2], _, rfl, rfl, ⟨by have := (Kd.R_reads' HW.out).1; omega⟩, H', ⟨by have := HQ.out; omega⟩, HY, HW, HO, HB⟩
                · rw [if_neg c4] at H
                  exact absurd H (by simp)
              · replace c3 := Bool.eq_false_iff.mpr c3
                subst c3
                rw [if_neg (by decide)] at H
                obtain ⟨rfl, rfl⟩ : [] = r1 ∧ 7 = r2 := by simpa using H
                clear H
                go_wp2_with (go_at_call 39; (with_reducible refine (synth_begin.calls k1 l0 t ws gy A0 c0 (fun k_ => some k_ = (Value.slice A1 l0.length c1).ownBlock) _ w _ HY.out HR0.out HB.out HW.out hll false ws1 HG.out).mono ?_); rintro e w5 ⟨rfl, h1, h2, h3, h4⟩; replace HO := Aside0.mk (Kd.R_kept HO.out h3 (fun _ h => h)); replace HY := Aside0.mk h1; replace HB := Aside0.mk h2; replace HW := Aside0.mk h4; clear h1 h2 h3 h4)
                go_ret2
                exact ⟨_, rfl, Kd.R_nil _ _ _ _ _, HB.out⟩
            · rw [if_neg c2] at H
              have c2b : decide (t < fr) = false := decide_eq_false c2
              obtain ⟨⟨q1b, ws1⟩, hg, H⟩ := Option.bind_eq_some_iff.mp H
              replace H : (if q1b = true then some (out, 0) else some ([], 7)) = some (r1, r2) := H
              have HG := Aside0.mk hg
              clear hg
              by_cases c3 : q1b = true
              · subst c3
                rw [if_pos rfl] at H
                obtain ⟨rfl, rfl⟩ : out = r1 ∧ 0 = r2 := by simpa using H
                clear H
                go_wp2_with (go_at_call 39; (with_reducible refine (synth_begin.calls k1 l0 fr ws gy A0 c0 (fun k_ => some k_ = (Value.slice A1 l0.length c1).ownBlock) _ w _ HY.out HR0.out HB.out HW.out hll true ws1 HG.out).mono ?_); rintro e w5 ⟨rfl, h1, h2, h3, h4⟩; replace HO := Aside0.mk (Kd.R_kept HO.out h3 (fun _ h => h)); replace HY := Aside0.mk h1; replace HB := Aside0.mk h2; replace HW := Aside0.mk h4; clear h1 h2 h3 h4)
                go_ret2
                exact ⟨_, rfl, Kd.R_mono HO.out (fun _ _ => trivial), HB.out⟩
              · replace c3 := Bool.eq_false_iff.mpr c3
                subst c3
                rw [if_neg (by decide)] at H
                obtain ⟨rfl, rfl⟩ : [] = r1 ∧ 7 = r2 := by simpa using H
                clear H
                go_wp2_with (go_at_call 39; (with_reducible refine (synth_begin.calls k1 l0 fr ws gy A0 c0 (fun k_ => some k_ = (Value.slice A1 l0.length c1).ownBlock) _ w _ HY.out HR0.out HB.out HW.out hll false ws1 HG.out).mono ?_); rintro e w5 ⟨rfl, h1, h2, h3, h4⟩; replace HO := Aside0.mk (Kd.R_kept HO.out h3 (fun _ h => h)); replace HY := Aside0.mk h1; replace HB := Aside0.mk h2; replace HW := Aside0.mk h4; clear h1 h2 h3 h4)
                go_ret2
                exact ⟨_, rfl, Kd.R_nil _ _ _ _ _, HB.out⟩
      · rw [if_neg hfr] at h
        exact absurd h (by simp)
    · rw [if_neg hll] at h
      exact absurd h (by simp)
  · rw [if_neg c1] at h
    have c1b : (e2 == 0) = false := beq_eq_false_iff_ne.mpr c1
    have c1b1 : (e2 != 0) = true := bne_iff_ne.mpr c1
    clear c1
    obtain ⟨rfl, rfl⟩ : [] = r1 ∧ e2 = r2 := by simpa using h
    clear h
    go_enter Try.func26, Try.ntmps26
    go_wp2_with (go_at_call 28; (with_reducible refine (synth_Frame.calls k _ _ l0 fr e2 _ HR0.out HC0.out HF.out).mono ?_); rintro e w1 ⟨rfl, hb⟩; replace HB := Aside0.mk hb; clear hb)
    go_ret2
    exact ⟨_, rfl, Kd.R_nil _ _ _ _ _, HB.out⟩

end Go.Proofs.Ytkfkghnmbemdiaa.FSynth
