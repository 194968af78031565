/- Contracts of functions that the statement TopAlone reaches, and plain lemmas. No condition. -/
import Derived.Test.YtmngaagojkihbaaGreatZ07
namespace Go.Proofs.YtmngaagojkihbaaGreat.FTop
open Go.RowKit Go.Proofs.YtmngaagojkihbaaGreatW.PrintWords Go.Proofs.YtmngaagojkihbaaGreatW.PrintLast Go.Proofs.YtmngaagojkihbaaGreatW.PrintMore
attribute [local go_sem] max2_int min2_int max_two min_two
set_option linter.unusedVariables false
set_option linter.unusedSimpArgs false
set_option maxHeartbeats 8000000
set_option maxRecDepth 100000
def hand_leave.T4 : Bool × List (List Nat × List Nat) := (true, [([], []), ([], []), ([], []), ([], []), ([3], [3]), ([4], [4]), ([5], [5]), ([6], [6]), ([], []), ([7, 8], [7, 8]), ([], []), ([10], [10]), ([11], [11]), ([12], [12]), ([13], [13]), ([], []), ([14, 15, 9], [14, 15]), ([], []), ([17], [17]), ([18], [18]), ([19], [19]), ([20], [20]), ([], []), ([21, 22, 16], [21, 22]), ([0, 0, 3, 4, 5, 6, 7, 8, 9, 14, 16, 21, 23], [0]), ([24, 0, 3, 4, 5, 6, 7, 8, 9, 14, 16, 21, 23], [24]), ([25, 0, 3, 4, 5, 6, 7, 8, 9, 14, 16, 21, 23], [25]), ([26, 9, 23, 0, 3, 4, 5, 6, 7, 8, 9, 14, 16, 21, 23], [9, 26]), ([1, 0, 1, 3, 4, 5, 6, 7, 8, 9, 10, 11, 12, 13, 14, 15, 16, 21, 23, 24, 25, 26, 27], [1]), ([28, 0, 1, 3, 4, 5, 6, 7, 8, 9, 10, 11, 12, 13, 14, 15, 16, 21, 23, 24, 25, 26, 27], [28]), ([29, 0, 1, 3, 4, 5, 6, 7, 8, 9, 10, 11, 12, 13, 14, 15, 16, 21, 23, 24, 25, 26, 27], [29]), ([30, 16, 27, 0, 1, 3, 4, 5, 6, 7, 8, 9, 10, 11, 12, 13, 14, 15, 16, 21, 23, 24, 25, 26, 27], [16, 30]), ([2, 0, 1, 2, 3, 4, 5, 6, 7, 8, 9, 10, 11, 12, 13, 14, 15, 16, 17, 18, 19, 20, 21, 22, 23, 24, 25, 26, 27, 28, 29, 30, 31], [2]), ([32, 0, 1, 2, 3, 4, 5, 6, 7, 8, 9, 10, 11, 12, 13, 14, 15, 16, 17, 18, 19, 20, 21, 22, 23, 24, 25, 26, 27, 28, 29, 30, 31], [32]), ([33, 0, 1, 2, 3, 4, 5, 6, 7, 8, 9, 10, 11, 12, 13, 14, 15, 16, 17, 18, 19, 20, 21, 22, 23, 24, 25, 26, 27, 28, 29, 30, 31], [33]), ([34, 23, 31, 0, 1, 2, 3, 4, 5, 6, 7, 8, 9, 10, 11, 12, 13, 14, 15, 16, 17, 18, 19, 20, 21, 22, 23, 24, 25, 26, 27, 28, 29, 30, 31], [23, 34])])
def hand_leave.B4 : List Nat := [0, 0, 0, 0, 8, 24, 56, 120, 0, 504, 0, 1024, 3072, 7168, 15360, 0, 65528, 0, 131072, 393216, 917504, 1966080, 0, 8388600, 16777209, 33554425, 67108857, 134217721, 268435451, 536870907, 1073741819, 2147483643, 4294967295, 8589934591, 17179869183, 34359738367]
theorem hand_leave.tab4 : rtab .any (opsOf Tryz.f78 4) = hand_leave.T4 := by kernel_rfl
theorem hand_leave.bits4 : waitsOk hand_leave.T4.2 hand_leave.B4 = true := by kernel_rfl
def hand_leave.T5 : Bool × List (List Nat × List Nat) := (true, [([], []), ([0], [0]), ([1], [1]), ([], []), ([2, 3], [2, 3])])
def hand_leave.B5 : List Nat := [0, 1, 3, 0, 15]
theorem hand_leave.tab5 : rtab .any (opsOf Tryz.f78 5) = hand_leave.T5 := by kernel_rfl
theorem hand_leave.bits5 : waitsOk hand_leave.T5.2 hand_leave.B5 = true := by kernel_rfl
theorem hand_leave.calls (base g : Nat) (ok : Nat → Prop) (lv : Value) (log : List S38) (now : Int) (ts : List S44) (ls : List Bool) (la : List Int) (A0 A1 A2 : Option Addr) (c0 c1 c2 : Nat) (v5 v6 : Value) (w : World) (hbs : base ≤ w.heap.size) (hg : base ≤ g)
    (hB : w.heap[g]? = some (.cells #[lv, .int .i64 now, .slice A0 ts.length c0, .slice A1 ls.length c1, .slice A2 la.length c2, v5, v6] 160 (0, 0))) (hN : Kd.N k38 38 w base (okG g) lv log)
    (h0 : Kd.F k44 w (okH ok base g lv) A0 ts.length ts) (h1 : Kd.F Kd.bool w (okH ok base g lv) A1 ls.length ls) (h2 : Kd.F (Kd.int .i64) w (okH ok base g lv) A2 la.length la) (l0 : ts.length ≤ c0) (l1 : ls.length ≤ c1) (l2 : la.length ≤ c2) (e1 : ls.length = ts.length) (e2 : la.length = ts.length) (h8 : ts.length ≤ 8) :
    Calls Tryz.prog 78 #[.pointer (some ⟨g, 0, none⟩)] w fun e w' => e = .returned (.tuple #[]) ∧ ∃ lv' r0 r1 r2 A0' A1' A2' c0' c1' c2' lg, leaveL now ts.length (ts, ls, la, log) = (r0, r1, r2, lg) ∧ w'.heap[g]? = some (.cells #[lv', .int .i64 now, .slice A0' r0.length c0', .slice A1' r1.length c1', .slice A2' r2.length c2', v5, v6] 160 (0, 0)) ∧ Kd.N k38 38 w' base (okG g) lv' lg ∧
      Kd.F k44 w' (okH ok base g lv') A0' r0.length r0 ∧ Kd.F Kd.bool w' (okH ok base g lv') A1' r1.length r1 ∧ Kd.F (Kd.int .i64) w' (okH ok base g lv') A2' r2.length r2 ∧ r0.length ≤ c0' ∧ r1.length ≤ c1' ∧ r2.length ≤ c2' ∧ Below base w w' ∧ Kept w w' (handS g lv) ∧ (lv'.ownBlock = lv.ownBlock ∨ ∃ b, lv'.ownBlock = some b ∧ w.heap.size ≤ b) := by
  have HB := Aside0.mk hB
  have x2 : w.cell? ⟨g, 2, none⟩ = some (.slice A0 ts.length c0) := by rw [blk_cell hB]; rfl
  have hgl := blk_lt hB
  go_enter Tryz.func78, Tryz.ntmps78
  go_wp2
  clear x2
  have HN := Aside0.mk hN
  have H0 := Aside0.mk h0
  have H1 := Aside0.mk h1
  have H2 := Aside0.mk h2
  clear hB hN h0 h1 h2
  go_loopg [2] ts.length (fun k v2 wr => ∃ (lv1 : Value) (t1 : List S44) (b1 : List Bool) (a1 : List Int) (g1 : List S38) (A0 A1 A2 : Option Addr) (c0 c1 c2 : Nat), v2 = .int .i64 ((k : Int) - 1) ∧ leaveL now k (t1, b1, a1, g1) = leaveL now ts.length (ts, ls, la, log) ∧ wr.heap[g]? = some (.cells #[lv1, .int .i64 now, .slice A0 t1.length c0, .slice A1 b1.length c1, .slice A2 a1.length c2, v5, v6] 160 (0, 0)) ∧ Kd.N k38 38 wr base (okG g) lv1 g1 ∧
    Kd.F k44 wr (okH ok base g lv1) A0 t1.length t1 ∧ Kd.F Kd.bool wr (okH ok base g lv1) A1 b1.length b1 ∧ Kd.F (Kd.int .i64) wr (okH ok base g lv1) A2 a1.length a1 ∧ t1.length ≤ c0 ∧ b1.length ≤ c1 ∧ a1.length ≤ c2 ∧ b1.length = t1.length ∧ a1.length = t1.length ∧ t1.length ≤ 8 ∧ k ≤ t1.length ∧ Below base w wr ∧ Kept w wr (handS g lv) ∧ (lv1.ownBlock = lv.ownBlock ∨ ∃ b, lv1.ownBlock = some b ∧ w.heap.size ≤ b))
  case atStart => exact ⟨lv, ts, ls, la, log, A0, A1, A2, c0, c1, c2, by go_num, rfl, HB.out, HN.out, H0.out, H1.out, H2.out, l0, l1, l2, e1, e2, h8, Nat.le_refl _, Below.refl _ _, ⟨Nat.le_refl _, fun _ _ _ => rfl⟩, Or.inl rfl⟩
  case round =>
    obtain ⟨lv1, t1, b1, a1, g1, A0', A1', A2', c0', c1', c2', rfl, hle, hB1, hN1, hT1, hL1, hA1, l01, l11, l21, e11, e21, h81, hkt, hb1, hk1, hr1⟩ := hrel
    have HN1 := Aside0.mk hN1
    have HT1 := Aside0.mk hT1
    have HL1 := Aside0.mk hL1
    have HA1 := Aside0.mk hA1
    have HR1 := Aside0.mk hr1
    have HK1 := Aside0.mk hk1
    have HLE := Aside0.mk hle
    clear hN1 hT1 hL1 hA1 hr1 hle
    obtain ⟨y0, y1, y2, y3, y4, y5, y6⟩ := bx7 hB1
    obtain _ | k := gk
    · have hle := HLE.out
      clear HLE
      go_wp2
      go_end0
      exact ⟨rfl, lv1, t1, b1, a1, A0', A1', A2', c0', c1', c2', g1, hle.symm, hB1, HN1.out, HT1.out, HL1.out, HA1.out, l01, l11, l21, hb1, HK1.out, HR1.out⟩
    · have hkb : k < b1.length := by omega
      obtain ⟨ad, bv, rfl, hbv, e0⟩ := elB (Kd.F_now HL1.out) k hkb
      have hk1 : (((k + 1 : Nat) : Int) - 1) = (k : Int) := by omega
      rw [hk1]
      have hsz := HK1.out.1
      have hgl2 := blk_lt hB1
      have hstep := Aside0.mk (show leaveL now (k + 1) (t1, b1, a1, g1) = if bv then leaveL now k (outL t1 k, outL b1 k, outL a1 k, noteL g1 now 7 k) else leaveL now k (t1, b1, a1, g1) by
        show (if b1.getD k false then _ else _) = _
        rw [List.getD_eq_getElem?_getD, List.getElem?_eq_getElem hkb, Option.getD_some, hbv.out])
      clear hbv
      cases bv with
      | false =>
        go_wp2
        go_roundg k
        case measure => omega
        case rel => exact ⟨lv1, t1, b1, a1, g1, A0', some ad, A2', c0', c1', c2', by go_num, by rw [← HLE.out, hstep.out]; rfl, hB1, HN1.out, HT1.out, HL1.out, HA1.out, l01, l11, l21, e11, e21, h81, by omega, hb1, HK1.out, HR1.out⟩
      | true =>
        have hkt2 : k < t1.length := by omega
        have hka : k < a1.length := by omega
        have t8 : b1.length ≤ 8 := by omega
        have a8 : a1.length ≤ 8 := by omega
        go_wp2
        refine st_ 36 (fun w' => Below wr.heap.size wr w' ∧ w'.cell? (⟨g, 2, none⟩) = some (.slice A0' t1.length c0') ∧ w'.cell? (⟨g, 3, none⟩) = some (.slice (some ad) b1.length c1') ∧ w'.cell? (⟨g, 4, none⟩) = some (.slice A2' a1.length c2')) [27,31,35] hand_leave.tab4 hand_leave.bits4 ⟨below_drew1 bl0, y2, y3, y4⟩ (h := fun HT HW hHeld => ?_)
        repeat (first | refine pn_ HT (h := ?_) | refine tn_ HT HW hHeld (h := ?_) | refine zn_ HT (h := ?_))
        refine on_ HT (h := fun K hK => ?_)
        refine cn_ ((without44.calls A0' c0' t1 k _ wr.drew (Kd.F_drew HT1.out) l01 hkt2 (by omega)).mono (fun e w' ⟨v, he, h⟩ => ⟨_, he, h⟩)) (R := fun v w' => Kd.N k44 44 w' wr.drew.heap.size (nwb (okH ok base g lv1) wr.drew) v (outL t1 k) ∧ Below wr.drew.heap.size wr.drew w') (h := fun v5 w5 hv5 => ?_)
        obtain ⟨hN5, hb3⟩ := hv5
        refine hK.out _ _ ⟨below_step (hHeld.1) hb3, be_cell hb3 (hHeld.2.1), be_cell hb3 (hHeld.2.2.1), be_cell hb3 (hHeld.2.2.2)⟩ (fun hHeld => ?_)
        refine nm_ (h := ?_)
        have hbA : Below wr.heap.size wr w5 := (hHeld.1)
        obtain ⟨A5, c5, rfl⟩ := Kd.N_slice hN5
        repeat (first | refine pn_ HT (h := ?_) | refine tn_ HT HW hHeld (h := ?_) | refine zn_ HT (h := ?_))
        refine on_ HT (h := fun K hK => ?_)
        refine cn_ ((without4.calls (some ad) c1' b1 k _ w5 (Kd.F_below HL1.out hbA) l11 hkb (by omega)).mono (fun e w' ⟨v, he, h⟩ => ⟨_, he, h⟩)) (R := fun v w' => Kd.N Kd.bool 4 w' w5.heap.size (nwb (okH ok base g lv1) w5) v (outL b1 k) ∧ Below w5.heap.size w5 w') (h := fun v6' w6 hv6 => ?_)
        obtain ⟨hN6, hb3⟩ := hv6
        refine hK.out _ _ ⟨below_step (hHeld.1) hb3, be_cell hb3 (hHeld.2.1), be_cell hb3 (hHeld.2.2.1), be_cell hb3 (hHeld.2.2.2)⟩ (fun hHeld => ?_)
        refine nm_ (h := ?_)
        have hbB : Below wr.heap.size wr w6 := (hHeld.1)
        have hb56 := hb3
        obtain ⟨A6, c6, rfl⟩ := Kd.N_slice hN6
        repeat (first | refine pn_ HT (h := ?_) | refine tn_ HT HW hHeld (h := ?_) | refine zn_ HT (h := ?_))
        refine on_ HT (h := fun K hK => ?_)
        refine cn_ ((without3.calls A2' c2' a1 k _ w6 (Kd.F_below HA1.out hbB) l21 hka (by omega)).mono (fun e w' ⟨v, he, h⟩ => ⟨_, he, h⟩)) (R := fun v w' => Kd.N (Kd.int .i64) 3 w' w6.heap.size (nwb (okH ok base g lv1) w6) v (outL a1 k) ∧ Below w6.heap.size w6 w') (h := fun v7' w7 hv7 => ?_)
        obtain ⟨hN7, hb3⟩ := hv7
        refine hK.out _ _ ⟨below_step (hHeld.1) hb3, be_cell hb3 (hHeld.2.1), be_cell hb3 (hHeld.2.2.1), be_cell hb3 (hHeld.2.2.2)⟩ (fun hHeld => ?_)
        refine nm_ (h := ?_)
        have hbC : Below wr.heap.size wr w7 := (hHeld.1)
        have hb67 := hb3
        obtain ⟨A7, c7, rfl⟩ := Kd.N_slice hN7
        repeat (first | refine pn_ HT (h := ?_) | refine tn_ HT HW hHeld (h := ?_) | refine zn_ HT (h := ?_))
        have hB7 := blk_below hB1 hbC
        have hbd7 := Below.trans hb1 (Below.mono hbC (Nat.le_trans hbs hsz))
        have hg5 : g < w5.heap.size := Nat.lt_of_lt_of_le hgl2 hbA.size
        have hwr : wr.drew.heap.size = wr.heap.size := rfl
        have hN5' := Kd.N_below (Kd.N_below hN5 hb56) hb67
        have hN6' := Kd.N_below hN6 hb67
        have HL5 := (Kd.N_reads' hN5).2.1
        have HL6 := (Kd.N_reads' hN6).2.1
        have HL7 := (Kd.N_reads' hN7).2.1
        refine ln_ HT (h := fun K hK => ?_)
        refine stB_step (w0 := w) (base := base) (seg := [.slice A5 (outL t1 k).length c5]) (cs' := [lv1, .int .i64 now, .slice A5 (outL t1 k).length c5, .slice (some ad) b1.length c1', .slice A2' a1.length c2', v5, v6]) hB7 hbd7 hg (h := fun w8 hB8 hb8 hg8 => ?_)
        refine hK.out _ _ ?_
        repeat (first | refine pn_ HT (h := ?_) | refine zn_ HT (h := ?_))
        refine ln_ HT (h := fun K hK => ?_)
        refine stB_step (w0 := w) (base := base) (seg := [.slice A6 (outL b1 k).length c6]) (cs' := [lv1, .int .i64 now, .slice A5 (outL t1 k).length c5, .slice A6 (outL b1 k).length c6, .slice A2' a1.length c2', v5, v6]) hB8 hb8 hg (h := fun w9 hB9 hb9 hg9 => ?_)
        refine hK.out _ _ ?_
        repeat (first | refine pn_ HT (h := ?_) | refine zn_ HT (h := ?_))
        refine ln_ HT (h := fun K hK => ?_)
        refine stB_step (w0 := w) (base := base) (seg := [.slice A7 (outL a1 k).length c7]) (cs' := [lv1, .int .i64 now, .slice A5 (outL t1 k).length c5, .slice A6 (outL b1 k).length c6, .slice A7 (outL a1 k).length c7, v5, v6]) hB9 hb9 hg (h := fun wA hBA hbA2 hgA => ?_)
        refine hK.out _ _ ?_
        repeat (first | refine pn_ HT (h := ?_) | refine zn_ HT (h := ?_))
        refine dn_ HT (h := ?_)
        clear HT HW hHeld
        have hgN : ∀ q, q ≠ g → q < w7.heap.size → wA.heap[q]? = w7.heap[q]? := fun q hq hlt => (hgA.block q (Nat.lt_of_lt_of_le hlt (Nat.le_trans hg8.size hg9.size)) (fun he => hq (Option.some.inj he))).trans ((hg9.block q (Nat.lt_of_lt_of_le hlt hg8.size) (fun he => hq (Option.some.inj he))).trans (hg8.block q hlt (fun he => hq (Option.some.inj he))))
        have hsA : w7.heap.size ≤ wA.heap.size := Nat.le_trans hg8.size (Nat.le_trans hg9.size hgA.size)
        have HNA := Aside0.mk (Kd.N_step (w1 := wA) (Kd.N_below HN1.out hbC) (fun q hq hlt => hgN q hq hlt))
        have F5 := Aside0.mk (Kd.F_step (W1 := wA) (H_new hN5' (Nat.le_trans hbs hsz) hgl2 (Kd.N_drew HN1.out)) (fun q hq hlt => hgN q hq.2.1 hlt))
        have F6 := Aside0.mk (Kd.F_step (W1 := wA) (H_new hN6' (Nat.le_trans hbs (Nat.le_trans hsz hbA.size)) (Nat.lt_of_lt_of_le hgl2 hbA.size) (Kd.N_below HN1.out hbA)) (fun q hq hlt => hgN q hq.2.1 hlt))
        have F7 := Aside0.mk (Kd.F_step (W1 := wA) (H_new hN7 (Nat.le_trans hbs (Nat.le_trans hsz hbB.size)) (Nat.lt_of_lt_of_le hgl2 hbB.size) (Kd.N_below HN1.out hbB)) (fun q hq hlt => hgN q hq.2.1 hlt))
        have hkA : Kept w wA (handS g lv) := ⟨Nat.le_trans hsz (Nat.le_trans hbC.size hsA), fun q hq hS => (hgN q (fun he => hS (Or.inl he)) (Nat.lt_of_lt_of_le hq (Nat.le_trans hsz hbC.size))).trans ((hbC.block q (Nat.lt_of_lt_of_le hq hsz)).trans (HK1.out.2 q hq hS))⟩
        clear hN5 hN6 hN7 hN5' hN6' hB7 hB8 hB9 hg8 hg9 hgA hb8 hb9 hbd7 hgN hB1 y0 y1 y2 y3 y4 y5 y6
        go_wp2_with fail
        refine (book_note.calls base g lv1 g1 now 7 k _ _ _ v5 v6 wA (Nat.le_trans hbs hkA.1) hg hBA HNA.out).mono ?_
        rintro e wB ⟨rfl, lvB, hBB, hNB, hbB2, hkB, hrB⟩
        go_wp2
        go_roundg k
        case measure => omega
        case rel =>
          have o1 : (outL t1 k).length = t1.length - 1 := by unfold outL; rw [List.length_append, List.length_take, List.length_drop]; omega
          have o2 : (outL b1 k).length = b1.length - 1 := by unfold outL; rw [List.length_append, List.length_take, List.length_drop]; omega
          have o3 : (outL a1 k).length = a1.length - 1 := by unfold outL; rw [List.length_append, List.length_take, List.length_drop]; omega
          refine ⟨lvB, outL t1 k, outL b1 k, outL a1 k, noteL g1 now 7 k, A5, A6, A7, c5, c6, c7, by go_num, by rw [← HLE.out, hstep.out]; rfl, hBB, hNB, H_note F5.out hkB hrB, H_note F6.out hkB hrB, H_note F7.out hkB hrB, HL5, HL6, HL7, by omega, by omega, by omega, by omega, ?_, ?_, ?_⟩
          · exact Below.trans hbA2 hbB2
          · refine ⟨Nat.le_trans hkA.1 hkB.1, fun q hq hS => (hkB.2 q (Nat.lt_of_lt_of_le hq hkA.1) (fun hS1 => ?_)).trans (hkA.2 q hq hS)⟩
            rcases hS1 with hS1 | hS1
            · exact hS (Or.inl hS1)
            · rcases HR1.out with h1 | ⟨b, h1, h2⟩
              · exact hS (Or.inr (hS1.trans h1))
              · rw [h1] at hS1; have := Option.some.inj hS1; omega
          · rcases hrB with h1 | ⟨b, h1, h2⟩
            · rw [h1]; exact HR1.out
            · exact Or.inr ⟨b, h1, Nat.le_trans hkA.1 h2⟩
theorem newJ_iff {js : List S182} {a : S182} : newJ js a = true ↔ ∀ b ∈ js, ¬ (a.f0 = b.f0 ∧ a.f1 = b.f1) := by
  unfold newJ
  rw [List.all_eq_true]
  refine forall_congr' fun b => forall_congr' fun _ => ?_
  by_cases h1 : a.f0 = b.f0 <;> by_cases h2 : a.f1 = b.f1 <;> simp [h1, h2]
abbrev keyNe (a b : S182) : Prop := ¬ (b.f0 = a.f0 ∧ b.f1 = a.f1)
theorem jobA_iff2 {l : List S44} {js : List S182} : jobA l js = true ↔ taskA l = true ∧ js.length ≤ 32 ∧ (∀ j ∈ js, jobR l j = true) ∧ js.Pairwise keyNe := by
  unfold jobA
  rw [Bool.and_eq_true, Bool.and_eq_true, List.all_eq_true, decide_eq_true_iff, and_assoc]
  refine and_congr_right fun _ => and_congr_right fun _ => ?_
  rw [List.pairwise_iff_getElem]
  constructor
  · intro h
    have h2 : ∀ i (hi : i < js.length), jobR l js[i] = true ∧ newJ (js.take i) js[i] = true := fun i hi => by
      have := h i (List.mem_range.2 hi)
      rw [jobOk_iff hi, Bool.and_eq_true] at this
      exact this
    refine ⟨fun j hj => ?_, fun i k hi hk hik => ?_⟩
    · obtain ⟨i, hi, rfl⟩ := List.getElem_of_mem hj
      exact (h2 i hi).1
    · refine newJ_iff.1 (h2 k hk).2 js[i] ?_
      rw [List.mem_take_iff_getElem]
      exact ⟨i, by omega, rfl⟩
  · rintro ⟨h1, h2⟩ i hi
    rw [List.mem_range] at hi
    rw [jobOk_iff hi, Bool.and_eq_true]
    refine ⟨h1 _ (List.getElem_mem hi), newJ_iff.2 fun b hb => ?_⟩
    rw [List.mem_take_iff_getElem] at hb
    obtain ⟨k, hk, rfl⟩ := hb
    exact h2 k i (by omega) hi (by omega)
theorem jobA_sub {l : List S44} {js js' : List S182} (h : jobA l js = true) (hs : js'.Sublist js) : jobA l js' = true := by
  rw [jobA_iff2] at h ⊢
  exact ⟨h.1, Nat.le_trans hs.length_le h.2.1, fun j hj => h.2.2.1 j (hs.subset hj), h.2.2.2.sublist hs⟩
theorem jobA_miss {l : List S44} {js : List S182} (now : Int) (h : jobA l js = true) : jobA l (missL now js) = true := jobA_sub h List.filter_sublist
def tickP (s : S80) (given : Bool) (now : Int) : S80 × Int :=
  let js := missL now s.f3
  let r := if given then runJ s.f0 now (missLog now s.f4 s.f3) js else (-1, js, missLog now s.f4 s.f3)
  let q := if r.2.1.length = 0 then leaveL now s.f0.length (s.f0, s.f1, s.f2, r.2.2) else (s.f0, s.f1, s.f2, r.2.2)
  (⟨q.1, q.2.1, q.2.2.1, r.2.1, q.2.2.2⟩, r.1)
theorem part_Tick.calls (s : S80) (cs : List Value) (ok : Nat → Prop) (given : Bool) (now : Int) (w : World) (h : Kd.FK k80 w ok s cs) (hR : partR s = true) (hw : whenB now = true) :
    Calls Tryz.prog 37 #[.agg cs.toArray, .bool given, .int .i64 now] w fun e w' => ∃ cs', e = .returned (.tuple #[.agg cs'.toArray, .int .i64 (tickP s given now).2, .int .i64 0]) ∧ Kd.FK k80 w' (nw ok w) (tickP s given now).1 cs' ∧ Below w.heap.size w w' := by
  have hu := Tryz.underlying80
  obtain ⟨hR1, hR2, hR3, hR4⟩ := partR_iff.1 hR
  have hR5 : s.f2.length = s.f0.length := (polR_iff.1 hR2).2.1
  have hR6 : s.f0.length ≤ 8 := by have := (polR_iff.1 hR2).1; unfold taskA at this; rw [Bool.and_eq_true] at this; exact of_decide_eq_true this.2
  have hR7 : s.f3.length ≤ 32 := (jobA_iff2.1 hR3).2.1
  have HJA := Aside0.mk hR3
  have HL1 := Aside0.mk hR1
  have HL2 := Aside0.mk hR5
  have HR := Aside0.mk hR
  have HWN := Aside0.mk hw
  clear hR1 hR2 hR3 hR5 hR hw
  obtain ⟨A0, c0, A1, c1, A2, c2, A3, c3, A4, c4, rfl, l0, g0, l1, g1, l2, g2, l3, g3, l4, g4⟩ := k80_openF h
  have H := Aside0.mk h
  have G0 := Aside0.mk (Kd.F_bound g0)
  have G1 := Aside0.mk (Kd.F_bound g1)
  have G2 := Aside0.mk (Kd.F_bound g2)
  have G3 := Aside0.mk (Kd.F_bound g3)
  clear h g0 g1 g2 g3 g4
  go_enter Tryz.func37, Tryz.ntmps37
  go_wp2_with fail
  have hB0 := blk_al (blk_new w (.cells #[.slice A0 s.f0.length c0, .slice A1 s.f1.length c1, .slice A2 s.f2.length c2, .slice A3 s.f3.length c3, .slice A4 s.f4.length c4] 80)) (.cells #[.slice none 0 0, .slice none 0 0, .slice none 0 0, .slice none 0 0, .slice none 0 0] 80)
  have hRB := blk_new (w.alloc (.cells #[.slice A0 s.f0.length c0, .slice A1 s.f1.length c1, .slice A2 s.f2.length c2, .slice A3 s.f3.length c3, .slice A4 s.f4.length c4] 80)) (.cells #[.slice none 0 0, .slice none 0 0, .slice none 0 0, .slice none 0 0, .slice none 0 0] 80)
  have hb := @bl2 w (.cells #[.slice A0 s.f0.length c0, .slice A1 s.f1.length c1, .slice A2 s.f2.length c2, .slice A3 s.f3.length c3, .slice A4 s.f4.length c4] 80) (.cells #[.slice none 0 0, .slice none 0 0, .slice none 0 0, .slice none 0 0, .slice none 0 0] 80)
  have hz : (w.alloc (.cells #[.slice A0 s.f0.length c0, .slice A1 s.f1.length c1, .slice A2 s.f2.length c2, .slice A3 s.f3.length c3, .slice A4 s.f4.length c4] 80)).heap.size = w.heap.size + 1 := alsz
  rw [hz] at hRB
  refine (part_Right.calls s [.slice A0 s.f0.length c0, .slice A1 s.f1.length c1, .slice A2 s.f2.length c2, .slice A3 s.f3.length c3, .slice A4 s.f4.length c4] ok _ (Kd.FK_below H.out hb)).mono ?_; rintro e w2 ⟨rfl, hb2⟩
  rw [HR.out]
  have hB0' := Aside0.mk (blk_below hB0 hb2)
  have hRB' := Aside0.mk (blk_below hRB hb2)
  have hbA := below_step hb hb2
  clear hB0 hRB hb hb2
  obtain ⟨x0, x1, x2, x3, x4⟩ := bx5 hB0'.out
  go_wp2_with fail
  refine (part_when.calls now w2).mono ?_; rintro e w3 ⟨rfl, hb2⟩
  rw [HWN.out]
  have hB0 := Aside0.mk (blk_below hB0'.out hb2)
  have hRB := Aside0.mk (blk_below hRB'.out hb2)
  have hbB := below_step hbA hb2
  clear hB0' hRB' hb2 hbA x0 x1 x2 x3 x4
  obtain ⟨x0, x1, x2, x3, x4⟩ := bx5 hB0.out
  go_wp2_with fail
  refine (part_take.calls s [.slice A0 s.f0.length c0, .slice A1 s.f1.length c1, .slice A2 s.f2.length c2, .slice A3 s.f3.length c3, .slice A4 s.f4.length c4] ok now w3 (Kd.FK_below H.out hbB) hR4).mono ?_; rintro e w4 ⟨g, lv, rfl, hg, hB4, hN4, hb4⟩
  have hRB' := Aside0.mk (blk_below hRB.out hb4)
  have hbC := below_step hbB hb4
  clear x0 x1 x2 x3 x4 hB0
  have hgl := blk_lt hB4
  have hB4 : w4.heap[g]? = some (.cells #[lv, .int .i64 now, .slice A0 s.f0.length c0, .slice A1 s.f1.length c1, .slice A2 s.f2.length c2, .slice A3 s.f3.length c3, .slice A4 s.f4.length c4] 160 (0, 0)) := hB4
  have hs3 := hbB.size
  have hs4 := hb4.size
  go_wp2_with fail
  refine (hand_miss.calls w3.heap.size g lv s.f4 now s.f3 A3 c3 _ _ _ _ _ w4 hs4 hg hB4 hN4 (Kd.F_below G3.out hbC) l3 (by omega) (fun k hk => ⟨by omega, ne_own hN4 (by omega)⟩)).mono ?_
  rintro e w5 ⟨rfl, lv5, A5, c5, hB5, hN5, hc5, hF5, hb5, hk5, hr5⟩
  clear hB4
  have hRB3 := hRB.out
  have hbC0 := hbB
  have hb45 := Below.trans (Below.mono hb4 (Nat.le_refl _)) hb5
  have hgl5 := blk_lt hB5
  have hs5 := hb5.size
  generalize hjs : missL now s.f3 = js5 at hB5 hN5 hc5 hF5
  generalize hlg : missLog now s.f4 s.f3 = lg5 at hN5
  have HF5 := Aside0.mk hF5
  have HN5 := Aside0.mk hN5
  clear hF5
  cases given with
  | false =>
    have hv6 := Aside0.mk (show tickP s false now = (⟨(if js5.length = 0 then leaveL now s.f0.length (s.f0, s.f1, s.f2, lg5) else (s.f0, s.f1, s.f2, lg5)).1, (if js5.length = 0 then leaveL now s.f0.length (s.f0, s.f1, s.f2, lg5) else (s.f0, s.f1, s.f2, lg5)).2.1, (if js5.length = 0 then leaveL now s.f0.length (s.f0, s.f1, s.f2, lg5) else (s.f0, s.f1, s.f2, lg5)).2.2.1, js5, (if js5.length = 0 then leaveL now s.f0.length (s.f0, s.f1, s.f2, lg5) else (s.f0, s.f1, s.f2, lg5)).2.2.2⟩, -1) by unfold tickP; rw [hjs, hlg]; rfl)
    clear hjs hlg
    have hB6 := hB5
    have hb6 := hb45
    have hc6 := hc5
    have hN6 := HN5.out
    have hF6 := Kd.F_mono (ok' := fun k => w3.heap.size ≤ k ∧ k ≠ g ∧ some k ≠ lv5.ownBlock) HF5.out (fun k hk => ⟨by have := hk.1; omega, by have := hk.1; omega, hk.2⟩)
    have hw3 : w.heap.size + 2 ≤ w3.heap.size := blk_lt hRB3
    have hbt := Below.trans hbC0 (Below.mono hb6 (by omega))
    have hRBt6 := blk_below hRB3 hb6
    have hst := hb6.size
    have HF6 := Aside0.mk hF6
    have HN6 := Aside0.mk hN6
    have hown : ∀ k, k < w3.heap.size → some k ≠ lv5.ownBlock := fun k hk => ne_own hN6 hk
    clear hF6
    obtain ⟨y0, y1, y2, y3, y4, y5, y6⟩ := bx7 hB6
    by_cases ce : js5.length = 0
    · have ce2 : ((js5.length : Int) == 0) = true := by rw [ce]; rfl
      have hv2 := hv6.out
      rw [if_pos ce] at hv2
      have HV2 := Aside0.mk hv2
      clear hv2 ce hN6
      have T0 := Aside0.mk (Kd.F_mono (ok' := okH (fun k => ok k ∧ k < w.heap.size) w3.heap.size g lv5) (Kd.F_below G0.out hbt) (fun k hk => ⟨Or.inl hk, by omega, hown k (by omega)⟩))
      have T1 := Aside0.mk (Kd.F_mono (ok' := okH (fun k => ok k ∧ k < w.heap.size) w3.heap.size g lv5) (Kd.F_below G1.out hbt) (fun k hk => ⟨Or.inl hk, by omega, hown k (by omega)⟩))
      have T2 := Aside0.mk (Kd.F_mono (ok' := okH (fun k => ok k ∧ k < w.heap.size) w3.heap.size g lv5) (Kd.F_below G2.out hbt) (fun k hk => ⟨Or.inl hk, by omega, hown k (by omega)⟩))
      go_wp2_with fail
      refine (hand_leave.calls w3.heap.size g (fun k => ok k ∧ k < w.heap.size) lv5 lg5 now s.f0 s.f1 s.f2 A0 A1 A2 c0 c1 c2 _ _ w5 hst hg hB6 HN6.out T0.out T1.out T2.out l0 l1 l2 HL1.out HL2.out hR6).mono ?_
      rintro e w7 ⟨rfl, lv7, r0, r1, r2, B0, B1, B2, d0, d1, d2, lg7, hle, hB7, hN7, hF0, hF1, hF2, m0, m1, m2, hb7, hk7, hr7⟩
      have hRBt := (hb7.block _ (by omega)).trans hRBt6
      have hbt7 := Below.trans hbt (Below.mono hb7 (by omega))
      have hst7 := Nat.le_trans hst hb7.size
      have HF7 := Aside0.mk (Kd.F_mono (ok' := fun k => w3.heap.size ≤ k ∧ k ≠ g) (Kd.F_kept HF6.out hk7 (fun k hk hS => hS.elim hk.2.1 hk.2.2)) (fun k hk => ⟨hk.1, hk.2.1⟩))
      have hv7 := Aside0.mk (HV2.out.trans (by rw [hle]))
      clear hle HF6 HN6 y0 y1 y2 y3 y4 y5 y6
      obtain ⟨y0, y1, y2, y3, y4, y5, y6⟩ := bx7 hB7
      obtain ⟨A9, c9, rfl⟩ := Kd.N_slice hN7
      have h9 := (Kd.N_reads' hN7).2.1
      have HN9 := Aside0.mk (Kd.N_mono (ok' := fun k => w3.heap.size ≤ k ∧ k ≠ g) (N_tight flat38 hN7) (fun k hk => ⟨Kd.N_base hN7 k hk.symm, hN7.1 k hk.symm⟩))
      clear hN7
      go_wp2_with fail
      refine (hand_state.calls w3.heap.size g _ _ _ _ _ _ _ _ _ _ _ _ _ _ _ _ _ _ now w7 hst7 hg hB7).mono ?_
      rintro e wz ⟨rfl, hbs2, hks2⟩
      have hRBz := (hbs2.block _ (by omega)).trans hRBt
      have hbz := Below.trans hbt7 (Below.mono hbs2 (by omega))
      go_wp2_with ((with_reducible refine gate_store (t := 80) (p := 6) (v := .tmp 38) rfl ?_); refine stB (w0 := w) (base := w.heap.size) (seg := [.slice B0 r0.length d0, .slice B1 r1.length d1, .slice B2 r2.length d2, .slice A5 js5.length c5, .slice A9 lg7.length c9]) (cs' := [.slice B0 r0.length d0, .slice B1 r1.length d1, .slice B2 r2.length d2, .slice A5 js5.length c5, .slice A9 lg7.length c9]) hRBz hbz (by omega) (h := fun wy hBy hby hgy => ?_))
      (try simp only [Exit.inBlock, Exit.then])
      refine bodyPost_ret (results_list (rs := [.cell 6 80, .tmp 7, .tmp 8]) rfl (by simp) (.cell _ 80 _ (0, 0) _ rfl hBy Tryz.underlying80 rfl (by kernel_rfl) (.tmp (.tmp .nil)))) rfl ?_
      have hgo : ∀ k, k ≠ g → k ≠ w.heap.size + 1 → k < w7.heap.size → wy.heap[k]? = w7.heap[k]? := fun k h1 h2 hlt => (hgy.block k (Nat.lt_of_lt_of_le hlt hks2.1) (fun he => h2 (Option.some.inj he))).trans (hks2.2 k hlt h1)
      refine ⟨_, by rw [hv7.out]; rfl, by rw [hv7.out]; exact k80_mkF wy (nw ok w) ⟨r0, r1, r2, js5, lg7⟩ m0 (Kd.F_mono (Kd.F_step (W1 := wy) hF0 (fun k hk hlt => hgo k hk.2.1 (by rcases hk.1 with h | h; omega; omega) hlt)) (fun k hk => hk.1.elim (fun h => Or.inl h.1) (fun h => Or.inr (by omega)))) m1 (Kd.F_mono (Kd.F_step (W1 := wy) hF1 (fun k hk hlt => hgo k hk.2.1 (by rcases hk.1 with h | h; omega; omega) hlt)) (fun k hk => hk.1.elim (fun h => Or.inl h.1) (fun h => Or.inr (by omega)))) m2 (Kd.F_mono (Kd.F_step (W1 := wy) hF2 (fun k hk hlt => hgo k hk.2.1 (by rcases hk.1 with h | h; omega; omega) hlt)) (fun k hk => hk.1.elim (fun h => Or.inl h.1) (fun h => Or.inr (by omega)))) hc6 (Kd.F_mono (Kd.F_step (W1 := wy) HF7.out (fun k hk hlt => hgo k hk.2 (by have := hk.1; omega) hlt)) (fun k hk => Or.inr (by have := hk.1; omega))) h9 (Kd.F_mono (Kd.F_step (W1 := wy) (Kd.N_F HN9.out) (fun k hk hlt => hgo k hk.2 (by have := hk.1; omega) hlt)) (fun k hk => Or.inr (by have := hk.1; omega))), hby⟩
    · have ce2 : ((js5.length : Int) == 0) = false := by simpa using ce
      have hv7 := hv6.out
      rw [if_neg ce] at hv7
      have hv7 := Aside0.mk hv7
      clear ce
      have HF7 := Aside0.mk (Kd.F_mono (ok' := fun k => w3.heap.size ≤ k ∧ k ≠ g) HF6.out (fun k hk => ⟨hk.1, hk.2.1⟩))
      have hRBt := hRBt6
      have hbt7 := hbt
      have hst7 := hst
      have hB7 := hB6
      obtain ⟨A9, c9, rfl⟩ := Kd.N_slice hN6
      have h9 := (Kd.N_reads' hN6).2.1
      have HN9 := Aside0.mk (Kd.N_mono (ok' := fun k => w3.heap.size ≤ k ∧ k ≠ g) (N_tight flat38 hN6) (fun k hk => ⟨Kd.N_base hN6 k hk.symm, hN6.1 k hk.symm⟩))
      clear hN6 HN6
      go_wp2_with fail
      refine (hand_state.calls w3.heap.size g _ _ _ _ _ _ _ _ _ _ _ _ _ _ _ _ _ _ now w5 hst7 hg hB7).mono ?_
      rintro e wz ⟨rfl, hbs2, hks2⟩
      have hRBz := (hbs2.block _ (by omega)).trans hRBt
      have hbz := Below.trans hbt7 (Below.mono hbs2 (by omega))
      go_wp2_with ((with_reducible refine gate_store (t := 80) (p := 6) (v := .tmp 38) rfl ?_); refine stB (w0 := w) (base := w.heap.size) (seg := [.slice A0 s.f0.length c0, .slice A1 s.f1.length c1, .slice A2 s.f2.length c2, .slice A5 js5.length c5, .slice A9 lg5.length c9]) (cs' := [.slice A0 s.f0.length c0, .slice A1 s.f1.length c1, .slice A2 s.f2.length c2, .slice A5 js5.length c5, .slice A9 lg5.length c9]) hRBz hbz (by omega) (h := fun wy hBy hby hgy => ?_))
      (try simp only [Exit.inBlock, Exit.then])
      refine bodyPost_ret (results_list (rs := [.cell 6 80, .tmp 7, .tmp 8]) rfl (by simp) (.cell _ 80 _ (0, 0) _ rfl hBy Tryz.underlying80 rfl (by kernel_rfl) (.tmp (.tmp .nil)))) rfl ?_
      have hgo : ∀ k, k ≠ g → k ≠ w.heap.size + 1 → k < w5.heap.size → wy.heap[k]? = w5.heap[k]? := fun k h1 h2 hlt => (hgy.block k (Nat.lt_of_lt_of_le hlt hks2.1) (fun he => h2 (Option.some.inj he))).trans (hks2.2 k hlt h1)
      refine ⟨_, by rw [hv7.out]; rfl, by rw [hv7.out]; exact k80_mkF wy (nw ok w) ⟨s.f0, s.f1, s.f2, js5, lg5⟩ l0 (Kd.F_mono (Kd.F_step (W1 := wy) (Kd.F_below G0.out hbt) (fun k hk hlt => hgo k (by omega) (by omega) hlt)) (fun k hk => Or.inl hk.1)) l1 (Kd.F_mono (Kd.F_step (W1 := wy) (Kd.F_below G1.out hbt) (fun k hk hlt => hgo k (by omega) (by omega) hlt)) (fun k hk => Or.inl hk.1)) l2 (Kd.F_mono (Kd.F_step (W1 := wy) (Kd.F_below G2.out hbt) (fun k hk hlt => hgo k (by omega) (by omega) hlt)) (fun k hk => Or.inl hk.1)) hc6 (Kd.F_mono (Kd.F_step (W1 := wy) HF7.out (fun k hk hlt => hgo k hk.2 (by have := hk.1; omega) hlt)) (fun k hk => Or.inr (by have := hk.1; omega))) h9 (Kd.F_mono (Kd.F_step (W1 := wy) (Kd.N_F HN9.out) (fun k hk hlt => hgo k hk.2 (by have := hk.1; omega) hlt)) (fun k hk => Or.inr (by have := hk.1; omega))), hby⟩
  | true =>
    obtain ⟨y0, y1, y2, y3, y4, y5, y6⟩ := bx7 hB5
    have hja := HJA.out
    have hja5 : jobA s.f0 js5 = true := by rw [← hjs]; exact jobA_miss now hja
    have HJ5 := Aside0.mk hja5
    clear hja hja5
    go_wp2_with fail
    refine (hand_run.calls w3.heap.size g lv5 lg5 now s.f0 A0 c0 js5 A5 c5 _ _ _ _ (fun k => ok k ∧ k < w.heap.size) w5 hb45.size hg hB5 HN5.out (Kd.F_below G0.out (Below.trans hbC0 (Below.mono hb45 (by omega)))) HF5.out l0 hc5 HJ5.out (fun k hk => ⟨by omega, ne_own HN5.out (by omega)⟩) (fun k hk => ⟨by have := hk.1; omega, hk.2⟩)).mono ?_
    rintro e w6 ⟨rfl, lv6, A6, c6, hB6, hN6, hc6, hF6, hb56, hk6, hr6⟩
    clear y0 y1 y2 y3 y4 y5 y6
    have hq : tickP s true now = (⟨(if (runJ s.f0 now lg5 js5).2.1.length = 0 then leaveL now s.f0.length (s.f0, s.f1, s.f2, (runJ s.f0 now lg5 js5).2.2) else (s.f0, s.f1, s.f2, (runJ s.f0 now lg5 js5).2.2)).1, (if (runJ s.f0 now lg5 js5).2.1.length = 0 then leaveL now s.f0.length (s.f0, s.f1, s.f2, (runJ s.f0 now lg5 js5).2.2) else (s.f0, s.f1, s.f2, (runJ s.f0 now lg5 js5).2.2)).2.1, (if (runJ s.f0 now lg5 js5).2.1.length = 0 then leaveL now s.f0.length (s.f0, s.f1, s.f2, (runJ s.f0 now lg5 js5).2.2) else (s.f0, s.f1, s.f2, (runJ s.f0 now lg5 js5).2.2)).2.2.1, (runJ s.f0 now lg5 js5).2.1, (if (runJ s.f0 now lg5 js5).2.1.length = 0 then leaveL now s.f0.length (s.f0, s.f1, s.f2, (runJ s.f0 now lg5 js5).2.2) else (s.f0, s.f1, s.f2, (runJ s.f0 now lg5 js5).2.2)).2.2.2⟩, (runJ s.f0 now lg5 js5).1) := by unfold tickP; rw [hjs, hlg]; rfl
    generalize runJ s.f0 now lg5 js5 = rj at hB6 hN6 hc6 hF6 hq ⊢
    obtain ⟨rn, js6, lg6⟩ := rj
    dsimp only at hB6 hN6 hc6 hF6 hq ⊢
    have hv6 := Aside0.mk hq
    clear hq hjs hlg
    have hb6 := Below.trans hb45 hb56
    have hF6 := Kd.F_mono (ok' := fun k => w3.heap.size ≤ k ∧ k ≠ g ∧ some k ≠ lv6.ownBlock) hF6 (fun k hk => ⟨hk.1.elim (fun h => by have := h.1; omega) (fun h => by have := hb45.size; omega), hk.2⟩)
    have hw3 : w.heap.size + 2 ≤ w3.heap.size := blk_lt hRB3
    have hbt := Below.trans hbC0 (Below.mono hb6 (by omega))
    have hRBt6 := blk_below hRB3 hb6
    have hst := hb6.size
    have HF6 := Aside0.mk hF6
    have HN6 := Aside0.mk hN6
    have hown : ∀ k, k < w3.heap.size → some k ≠ lv6.ownBlock := fun k hk => ne_own hN6 hk
    clear hF6
    obtain ⟨y0, y1, y2, y3, y4, y5, y6⟩ := bx7 hB6
    by_cases ce : js6.length = 0
    · have ce2 : ((js6.length : Int) == 0) = true := by rw [ce]; rfl
      have hv2 := hv6.out
      rw [if_pos ce] at hv2
      have HV2 := Aside0.mk hv2
      clear hv2 ce hN6
      have T0 := Aside0.mk (Kd.F_mono (ok' := okH (fun k => ok k ∧ k < w.heap.size) w3.heap.size g lv6) (Kd.F_below G0.out hbt) (fun k hk => ⟨Or.inl hk, by omega, hown k (by omega)⟩))
      have T1 := Aside0.mk (Kd.F_mono (ok' := okH (fun k => ok k ∧ k < w.heap.size) w3.heap.size g lv6) (Kd.F_below G1.out hbt) (fun k hk => ⟨Or.inl hk, by omega, hown k (by omega)⟩))
      have T2 := Aside0.mk (Kd.F_mono (ok' := okH (fun k => ok k ∧ k < w.heap.size) w3.heap.size g lv6) (Kd.F_below G2.out hbt) (fun k hk => ⟨Or.inl hk, by omega, hown k (by omega)⟩))
      go_wp2_with fail
      refine (hand_leave.calls w3.heap.size g (fun k => ok k ∧ k < w.heap.size) lv6 lg6 now s.f0 s.f1 s.f2 A0 A1 A2 c0 c1 c2 _ _ w6 hst hg hB6 HN6.out T0.out T1.out T2.out l0 l1 l2 HL1.out HL2.out hR6).mono ?_
      rintro e w7 ⟨rfl, lv7, r0, r1, r2, B0, B1, B2, d0, d1, d2, lg7, hle, hB7, hN7, hF0, hF1, hF2, m0, m1, m2, hb7, hk7, hr7⟩
      have hRBt := (hb7.block _ (by omega)).trans hRBt6
      have hbt7 := Below.trans hbt (Below.mono hb7 (by omega))
      have hst7 := Nat.le_trans hst hb7.size
      have HF7 := Aside0.mk (Kd.F_mono (ok' := fun k => w3.heap.size ≤ k ∧ k ≠ g) (Kd.F_kept HF6.out hk7 (fun k hk hS => hS.elim hk.2.1 hk.2.2)) (fun k hk => ⟨hk.1, hk.2.1⟩))
      have hv7 := Aside0.mk (HV2.out.trans (by rw [hle]))
      clear hle HF6 HN6 y0 y1 y2 y3 y4 y5 y6
      obtain ⟨y0, y1, y2, y3, y4, y5, y6⟩ := bx7 hB7
      obtain ⟨A9, c9, rfl⟩ := Kd.N_slice hN7
      have h9 := (Kd.N_reads' hN7).2.1
      have HN9 := Aside0.mk (Kd.N_mono (ok' := fun k => w3.heap.size ≤ k ∧ k ≠ g) (N_tight flat38 hN7) (fun k hk => ⟨Kd.N_base hN7 k hk.symm, hN7.1 k hk.symm⟩))
      clear hN7
      go_wp2_with fail
      refine (hand_state.calls w3.heap.size g _ _ _ _ _ _ _ _ _ _ _ _ _ _ _ _ _ _ now w7 hst7 hg hB7).mono ?_
      rintro e wz ⟨rfl, hbs2, hks2⟩
      have hRBz := (hbs2.block _ (by omega)).trans hRBt
      have hbz := Below.trans hbt7 (Below.mono hbs2 (by omega))
      go_wp2_with ((with_reducible refine gate_store (t := 80) (p := 6) (v := .tmp 38) rfl ?_); refine stB (w0 := w) (base := w.heap.size) (seg := [.slice B0 r0.length d0, .slice B1 r1.length d1, .slice B2 r2.length d2, .slice A6 js6.length c6, .slice A9 lg7.length c9]) (cs' := [.slice B0 r0.length d0, .slice B1 r1.length d1, .slice B2 r2.length d2, .slice A6 js6.length c6, .slice A9 lg7.length c9]) hRBz hbz (by omega) (h := fun wy hBy hby hgy => ?_))
      (try simp only [Exit.inBlock, Exit.then])
      refine bodyPost_ret (results_list (rs := [.cell 6 80, .tmp 7, .tmp 8]) rfl (by simp) (.cell _ 80 _ (0, 0) _ rfl hBy Tryz.underlying80 rfl (by kernel_rfl) (.tmp (.tmp .nil)))) rfl ?_
      have hgo : ∀ k, k ≠ g → k ≠ w.heap.size + 1 → k < w7.heap.size → wy.heap[k]? = w7.heap[k]? := fun k h1 h2 hlt => (hgy.block k (Nat.lt_of_lt_of_le hlt hks2.1) (fun he => h2 (Option.some.inj he))).trans (hks2.2 k hlt h1)
      refine ⟨_, by rw [hv7.out]; rfl, by rw [hv7.out]; exact k80_mkF wy (nw ok w) ⟨r0, r1, r2, js6, lg7⟩ m0 (Kd.F_mono (Kd.F_step (W1 := wy) hF0 (fun k hk hlt => hgo k hk.2.1 (by rcases hk.1 with h | h; omega; omega) hlt)) (fun k hk => hk.1.elim (fun h => Or.inl h.1) (fun h => Or.inr (by omega)))) m1 (Kd.F_mono (Kd.F_step (W1 := wy) hF1 (fun k hk hlt => hgo k hk.2.1 (by rcases hk.1 with h | h; omega; omega) hlt)) (fun k hk => hk.1.elim (fun h => Or.inl h.1) (fun h => Or.inr (by omega)))) m2 (Kd.F_mono (Kd.F_step (W1 := wy) hF2 (fun k hk hlt => hgo k hk.2.1 (by rcases hk.1 with h | h; omega; omega) hlt)) (fun k hk => hk.1.elim (fun h => Or.inl h.1) (fun h => Or.inr (by omega)))) hc6 (Kd.F_mono (Kd.F_step (W1 := wy) HF7.out (fun k hk hlt => hgo k hk.2 (by have := hk.1; omega) hlt)) (fun k hk => Or.inr (by have := hk.1; omega))) h9 (Kd.F_mono (Kd.F_step (W1 := wy) (Kd.N_F HN9.out) (fun k hk hlt => hgo k hk.2 (by have := hk.1; omega) hlt)) (fun k hk => Or.inr (by have := hk.1; omega))), hby⟩
    · have ce2 : ((js6.length : Int) == 0) = false := by simpa using ce
      have hv7 := hv6.out
      rw [if_neg ce] at hv7
      have hv7 := Aside0.mk hv7
      clear ce
      have HF7 := Aside0.mk (Kd.F_mono (ok' := fun k => w3.heap.size ≤ k ∧ k ≠ g) HF6.out (fun k hk => ⟨hk.1, hk.2.1⟩))
      have hRBt := hRBt6
      have hbt7 := hbt
      have hst7 := hst
      have hB7 := hB6
      obtain ⟨A9, c9, rfl⟩ := Kd.N_slice hN6
      have h9 := (Kd.N_reads' hN6).2.1
      have HN9 := Aside0.mk (Kd.N_mono (ok' := fun k => w3.heap.size ≤ k ∧ k ≠ g) (N_tight flat38 hN6) (fun k hk => ⟨Kd.N_base hN6 k hk.symm, hN6.1 k hk.symm⟩))
      clear hN6 HN6
      go_wp2_with fail
      refine (hand_state.calls w3.heap.size g _ _ _ _ _ _ _ _ _ _ _ _ _ _ _ _ _ _ now w6 hst7 hg hB7).mono ?_
      rintro e wz ⟨rfl, hbs2, hks2⟩
      have hRBz := (hbs2.block _ (by omega)).trans hRBt
      have hbz := Below.trans hbt7 (Below.mono hbs2 (by omega))
      go_wp2_with ((with_reducible refine gate_store (t := 80) (p := 6) (v := .tmp 38) rfl ?_); refine stB (w0 := w) (base := w.heap.size) (seg := [.slice A0 s.f0.length c0, .slice A1 s.f1.length c1, .slice A2 s.f2.length c2, .slice A6 js6.length c6, .slice A9 lg6.length c9]) (cs' := [.slice A0 s.f0.length c0, .slice A1 s.f1.length c1, .slice A2 s.f2.length c2, .slice A6 js6.length c6, .slice A9 lg6.length c9]) hRBz hbz (by omega) (h := fun wy hBy hby hgy => ?_))
      (try simp only [Exit.inBlock, Exit.then])
      refine bodyPost_ret (results_list (rs := [.cell 6 80, .tmp 7, .tmp 8]) rfl (by simp) (.cell _ 80 _ (0, 0) _ rfl hBy Tryz.underlying80 rfl (by kernel_rfl) (.tmp (.tmp .nil)))) rfl ?_
      have hgo : ∀ k, k ≠ g → k ≠ w.heap.size + 1 → k < w6.heap.size → wy.heap[k]? = w6.heap[k]? := fun k h1 h2 hlt => (hgy.block k (Nat.lt_of_lt_of_le hlt hks2.1) (fun he => h2 (Option.some.inj he))).trans (hks2.2 k hlt h1)
      refine ⟨_, by rw [hv7.out]; rfl, by rw [hv7.out]; exact k80_mkF wy (nw ok w) ⟨s.f0, s.f1, s.f2, js6, lg6⟩ l0 (Kd.F_mono (Kd.F_step (W1 := wy) (Kd.F_below G0.out hbt) (fun k hk hlt => hgo k (by omega) (by omega) hlt)) (fun k hk => Or.inl hk.1)) l1 (Kd.F_mono (Kd.F_step (W1 := wy) (Kd.F_below G1.out hbt) (fun k hk hlt => hgo k (by omega) (by omega) hlt)) (fun k hk => Or.inl hk.1)) l2 (Kd.F_mono (Kd.F_step (W1 := wy) (Kd.F_below G2.out hbt) (fun k hk hlt => hgo k (by omega) (by omega) hlt)) (fun k hk => Or.inl hk.1)) hc6 (Kd.F_mono (Kd.F_step (W1 := wy) HF7.out (fun k hk hlt => hgo k hk.2 (by have := hk.1; omega) hlt)) (fun k hk => Or.inr (by have := hk.1; omega))) h9 (Kd.F_mono (Kd.F_step (W1 := wy) (Kd.N_F HN9.out) (fun k hk hlt => hgo k hk.2 (by have := hk.1; omega) hlt)) (fun k hk => Or.inr (by have := hk.1; omega))), hby⟩
end Go.Proofs.YtmngaagojkihbaaGreat.FTop
