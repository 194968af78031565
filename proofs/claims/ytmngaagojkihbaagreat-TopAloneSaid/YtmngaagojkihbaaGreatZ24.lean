/- Contracts of functions that the statement TopAlone reaches, and plain lemmas. No condition. -/
import Derived.Test.YtmngaagojkihbaaGreatZ23
namespace Go.Proofs.YtmngaagojkihbaaGreat.FTop
open Go.RowKit Go.Proofs.YtmngaagojkihbaaGreatW.PrintWords Go.Proofs.YtmngaagojkihbaaGreatW.PrintLast Go.Proofs.YtmngaagojkihbaaGreatW.PrintMore
attribute [local go_sem] max2_int min2_int max_two min_two
set_option linter.unusedVariables false
set_option linter.unusedSimpArgs false
set_option maxHeartbeats 8000000
set_option maxRecDepth 100000
def world_Play.T18 : Bool × List (List Nat × List Nat) := (true, [([], []), ([], []), ([1], [1]), ([], []), ([], []), ([4], [4]), ([3, 5], [3, 5]), ([6], [6]), ([7], [7]), ([], []), ([], []), ([], []), ([9, 10, 11], [9, 10, 11]), ([12], [12]), ([8, 13], [8, 13]), ([0, 2, 0, 1, 2, 3, 4, 5, 6, 7, 8, 9, 10, 11, 12, 13, 14], [0, 2]), ([15, 0, 1, 2, 3, 4, 5, 6, 7, 8, 9, 10, 11, 12, 13, 14], [15]), ([16, 14, 14, 0, 1, 2, 3, 4, 5, 6, 7, 8, 9, 10, 11, 12, 13, 14], [14, 16])])
def world_Play.B18 : List Nat := [0, 0, 2, 0, 0, 16, 56, 120, 248, 0, 0, 0, 3584, 7680, 16376, 32767, 65535, 131071]
theorem world_Play.tab18 : rtab .any (opsOf Tryz.f7 18) = world_Play.T18 := by kernel_rfl
theorem world_Play.bits18 : waitsOk world_Play.T18.2 world_Play.B18 = true := by kernel_rfl
def world_Play.T25 : Bool × List (List Nat × List Nat) := (true, [([], []), ([], []), ([], []), ([], []), ([2, 3], [2, 3]), ([4], [4]), ([5], [5]), ([], []), ([], []), ([7, 8], [7, 8]), ([9], [9]), ([10], [10]), ([6, 11], [6, 11]), ([0, 1, 0, 1, 2, 3, 4, 5, 6, 7, 8, 9, 10, 11, 12], [0, 1]), ([13, 0, 1, 2, 3, 4, 5, 6, 7, 8, 9, 10, 11, 12], [13]), ([14, 12, 12, 0, 1, 2, 3, 4, 5, 6, 7, 8, 9, 10, 11, 12], [12, 14])])
def world_Play.B25 : List Nat := [0, 0, 0, 0, 12, 28, 60, 0, 0, 384, 896, 1920, 4092, 8191, 16383, 32767]
theorem world_Play.tab25 : rtab .any (opsOf Tryz.f7 25) = world_Play.T25 := by kernel_rfl
theorem world_Play.bits25 : waitsOk world_Play.T25.2 world_Play.B25 = true := by kernel_rfl
theorem repl36 (n p : Nat) : (List.replicate n z36).getD p z36 = z36 := by rw [List.getD_eq_getElem?_getD, List.getElem?_replicate]; split <;> rfl
def okP (w : World) (ok : Nat → Prop) (gS gV n : Nat) (f : Nat → Value) : Nat → Prop := fun k => ((ok k ∧ k < w.heap.size) ∨ w.heap.size ≤ k) ∧ k ≠ gS ∧ ¬ VO gV n f k
structure PI (w wr : World) (ok : Nat → Prop) (gS gV n : Nat) (q : S66 × List S36) (cs : List Value) (f : Nat → Value) : Prop where
  hX : wr.heap[gS]? = some (.cells cs.toArray 66 (0, 0))
  hF : Kd.FK k66 wr (okP w ok gS gV n f) q.1 cs
  hW : VW wr w.heap.size gV n f q.2
  hn : ¬ VO gV n f gS
  hg : w.heap.size ≤ gS
  hb : Below w.heap.size w wr
theorem PI.bel {w wr w1 : World} {ok : Nat → Prop} {gS gV n : Nat} {q : S66 × List S36} {cs : List Value} {f : Nat → Value} (h : PI w wr ok gS gV n q cs f) (hb : Below wr.heap.size wr w1) : PI w w1 ok gS gV n q cs f :=
  ⟨blk_below h.hX hb, Kd.FK_below h.hF hb, h.hW.below hb, h.hn, h.hg, below_step h.hb hb⟩
structure LW (w wq : World) (ok : Nat → Prop) (gV n : Nat) (g : Nat → Value) (vs : List S36) : Prop where
  hl : vs.length = n
  hb : wq.heap[gV]? = some (.cells (cellsV n g).toArray 36 (0, 0))
  h0 : ∀ q, q < n → ∃ A c, g (3 * q) = .slice A (vs.getD q z36).f0.length c ∧ (vs.getD q z36).f0.length ≤ c ∧ Kd.F k73 wq (fun k => nw ok w k ∧ k ≠ gV) A (vs.getD q z36).f0.length (vs.getD q z36).f0
  h1 : ∀ q, q < n → ∃ A c, g (3 * q + 1) = .slice A (vs.getD q z36).f1.length c ∧ (vs.getD q z36).f1.length ≤ c ∧ Kd.F (Kd.int .i64) wq (fun k => nw ok w k ∧ k ≠ gV) A (vs.getD q z36).f1.length (vs.getD q z36).f1
  h2 : ∀ q, q < n → ∃ A c, g (3 * q + 2) = .slice A (vs.getD q z36).f2.length c ∧ (vs.getD q z36).f2.length ≤ c ∧ Kd.F k38 wq (fun k => nw ok w k ∧ k ≠ gV) A (vs.getD q z36).f2.length (vs.getD q z36).f2
theorem VW.toLW {w wr : World} {ok : Nat → Prop} {gV n : Nat} {f : Nat → Value} {vs : List S36} (h : VW wr w.heap.size gV n f vs) : LW w wr ok gV n f vs := by
  refine ⟨h.hl, h.hb, fun q hq => ?_, fun q hq => ?_, fun q hq => ?_⟩
  · have hN := h.hS q hq
    obtain ⟨A, c, he, hc, hF⟩ := N_cap hN
    exact ⟨A, c, he, hc, Kd.F_mono hF (fun k hk => ⟨Or.inr (h.own (3 * q) k (by omega) hk.symm).1, fun e => h.hv (3 * q) (by omega) (by rw [← hk, e])⟩)⟩
  · have hN := h.hR q hq
    obtain ⟨A, c, he, hc, hF⟩ := N_cap hN
    exact ⟨A, c, he, hc, Kd.F_mono hF (fun k hk => ⟨Or.inr (h.own (3 * q + 1) k (by omega) hk.symm).1, fun e => h.hv (3 * q + 1) (by omega) (by rw [← hk, e])⟩)⟩
  · obtain ⟨e1, e2⟩ := h.hL q hq
    exact ⟨none, 0, by rw [e1, e2]; rfl, by rw [e2]; exact Nat.le_refl _, by rw [e2]; exact Kd.F_nil _ _ _⟩
theorem LW.log {w wq w1 : World} {ok : Nat → Prop} {gV n : Nat} {g : Nat → Value} {vs : List S36} (h : LW w wq ok gV n g vs) (p : Nat) (hp : p < n) (lg : List S38) (A : Option Addr) (c : Nat) (hc : lg.length ≤ c) (hF : Kd.F k38 wq (fun k => nw ok w k ∧ k ≠ gV) A lg.length lg)
    (hg : wq.grownBy w1 (some gV)) (hb : w1.heap[gV]? = some (.cells (cellsV n (upd g (3 * p + 2) (.slice A lg.length c))).toArray 36 (0, 0))) : LW w w1 ok gV n (upd g (3 * p + 2) (.slice A lg.length c)) (vs.set p ⟨(vs.getD p z36).f0, (vs.getD p z36).f1, lg⟩) := by
  have hpl : p < vs.length := by rw [h.hl]; exact hp
  have hgr : ∀ {α : Type} {d : Kd α} {B : Option Addr} {m : Nat} {xs : List α}, Kd.F d wq (fun k => nw ok w k ∧ k ≠ gV) B m xs → Kd.F d w1 (fun k => nw ok w k ∧ k ≠ gV) B m xs := fun hF => Kd.F_grown hF hg (fun k hk he => hk.2 (Option.some.inj he))
  refine ⟨by rw [List.length_set]; exact h.hl, hb, fun q hq => ?_, fun q hq => ?_, fun q hq => ?_⟩
  · obtain ⟨B, e, he, hc2, hF2⟩ := h.h0 q hq
    have : ((vs.set p ⟨(vs.getD p z36).f0, (vs.getD p z36).f1, lg⟩).getD q z36).f0 = (vs.getD q z36).f0 := by rw [getD_set36 _ _ _ _ hpl]; by_cases hqp : q = p <;> simp [hqp]
    rw [this, upd_ne _ _ (by omega)]
    exact ⟨B, e, he, hc2, hgr hF2⟩
  · obtain ⟨B, e, he, hc2, hF2⟩ := h.h1 q hq
    have : ((vs.set p ⟨(vs.getD p z36).f0, (vs.getD p z36).f1, lg⟩).getD q z36).f1 = (vs.getD q z36).f1 := by rw [getD_set36 _ _ _ _ hpl]; by_cases hqp : q = p <;> simp [hqp]
    rw [this, upd_ne _ _ (by omega)]
    exact ⟨B, e, he, hc2, hgr hF2⟩
  · rw [getD_set36 _ _ _ _ hpl]
    by_cases hqp : q = p
    · subst hqp
      rw [if_pos rfl, upd_same]
      exact ⟨A, c, rfl, hc, hgr hF⟩
    · obtain ⟨B, e, he, hc2, hF2⟩ := h.h2 q hq
      rw [if_neg hqp, upd_ne _ _ (by omega)]
      exact ⟨B, e, he, hc2, hgr hF2⟩
theorem LW.row {w wq : World} {ok : Nat → Prop} {gV n : Nat} {g : Nat → Value} {vs : List S36} (h : LW w wq ok gV n g vs) (hn : n ≤ 4) (hg : w.heap.size ≤ gV) : Kd.F k36 wq (nw ok w) (some ⟨gV, 0, none⟩) vs.length vs := by
  intro W hW
  have hb : W.heap[gV]? = some (.cells (cellsV n g).toArray 36 (0, 0)) := (hW gV (Or.inr hg) (blk_lt h.hb)).trans h.hb
  have hnow : ∀ {α : Type} {d : Kd α} {B : Option Addr} {m : Nat} {xs : List α}, Kd.F d wq (fun k => nw ok w k ∧ k ≠ gV) B m xs → d.C W B m xs := fun hF => hF W (fun k hk hlt => hW k hk.1 hlt)
  refine ⟨rfl, by rw [h.hl]; omega, fun _ => ⟨⟨gV, 0, none⟩, rfl, fun j p hj => ?_⟩⟩
  have hjl : j < n := by rw [← h.hl]; exact (List.getElem?_eq_some_iff.1 hj).1
  have hpj : vs.getD j z36 = p := by rw [List.getD_eq_getElem?_getD, hj, Option.getD_some]
  obtain ⟨A0, c0, e0, l0, F0⟩ := h.h0 j hjl
  obtain ⟨A1, c1, e1, l1, F1⟩ := h.h1 j hjl
  obtain ⟨A2, c2, e2, l2, F2⟩ := h.h2 j hjl
  rw [hpj] at e0 e1 e2 l0 l1 l2 F0 F1 F2
  refine ⟨[.slice A0 p.f0.length c0, .slice A1 p.f1.length c1, .slice A2 p.f2.length c2], rfl, k36_mk W p l0 (hnow F0) l1 (hnow F1) l2 (hnow F2), fun i u hu => ?_⟩
  have hadd : ∀ m, (⟨gV, 0, none⟩ : Addr).add m = ⟨gV, m, none⟩ := fun m => by unfold Addr.add; split <;> simp_all
  rw [hadd, blk_cell hb, List.getElem?_toArray, show j * k36.sz + i = 3 * j + i from by show j * 3 + i = _; omega]
  have hi : i < 3 := by have := (List.getElem?_eq_some_iff.1 hu).1; simpa using this
  rw [cellsV_get _ _ _ (by omega)]
  have : i = 0 ∨ i = 1 ∨ i = 2 := by omega
  rcases this with rfl | rfl | rfl
  · rw [show 3 * j + 0 = 3 * j from rfl, e0]; exact hu
  · rw [e1]; exact hu
  · rw [e2]; exact hu
set_option maxHeartbeats 40000000
theorem world_Play.calls (Ab : Option Addr) (cb : Nat) (b : List Int) (A : Option Addr) (c : Nat) (scr : List (List S46)) (ok : Nat → Prop) (w : World) (hC : Kd.C (Kd.int .u8) w Ab b.length b) (hb0 : ∀ x ∈ b, 0 ≤ x ∧ x ≤ 255) (hl : b.length ≤ 100000) (hS : Kd.F kAsks w ok A scr.length scr) (hsl : scr.length ≤ 900) :
    Calls Tryz.prog 7 #[.slice Ab b.length cb, .slice A scr.length c] w fun e w' => ∃ B d, e = .returned (.tuple #[.slice B (playK b scr).1.length d, .int .i64 (playK b scr).2]) ∧ (playK b scr).1.length ≤ d ∧ Kd.F k36 w' (nw ok w) B (playK b scr).1.length (playK b scr).1 ∧ Below w.heap.size w w' := by
  have hu := Tryz.underlying66
  have hu2 := Tryz.underlying53
  have hu3 := Tryz.underlying46
  have hu4 := Tryz.underlying36
  have hu5 := Tryz.underlying80
  have hu6 := Tryz.underlying73
  have HS := Aside0.mk (Kd.F_bound hS)
  have HB0 := Aside0.mk hb0
  have HCB := Aside0.mk hC
  clear hS hb0 hC
  have hvk := Aside0.mk (show playK b scr = if (decI b).2.2 = 0 then _ else _ from rfl)
  go_enter Tryz.func7, Tryz.ntmps7
  go_wp2_with fail
  refine (image_Decode.calls Ab cb b w HCB.out HB0.out hl).mono ?_; rintro _ w2 ⟨A1, c1, A2, c2, rfl, hc1, hF1, hc2, hF2, hb2⟩
  have HDL := Aside0.mk (decI_len HB0.out)
  generalize decI b = d at hvk hF1 hF2 hc1 hc2 HDL ⊢
  have HF1 := Aside0.mk hF1
  have HF2 := Aside0.mk hF2
  clear hF1 hF2
  have hC3 := blk_new w2 (.cells #[.slice none 0 0, .slice none 0 0] 53)
  have hb3 := below_alloc hb2 (.cells #[.slice none 0 0, .slice none 0 0] 53)
  have hs2 := hb2.size
  go_wp2_with ((with_reducible refine gate_store (t := 53) (p := 6) (v := .tmp 26) rfl ?_); refine stop_ ?_)
  refine ⟨?_⟩
  refine stB (w0 := w) (base := w.heap.size) (seg := [.slice A1 d.1.1.length c1, .slice A2 d.1.2.length c2]) (cs' := [.slice A1 d.1.1.length c1, .slice A2 d.1.2.length c2]) hC3 hb3 (by omega) (h := fun w4 hC4 hb4 hg4 => ?_)
  have HF14 := Aside0.mk (Kd.F_mono (ok' := fun k => w.heap.size ≤ k) (Kd.F_grown (Kd.F_alloc (Kd.F_bound HF1.out) (.cells #[.slice none 0 0, .slice none 0 0] 53)) hg4 (fun k hk he => by have h2 := Option.some.inj he; have := hk.2; omega)) (fun k hk => hk.1))
  have HF24 := Aside0.mk (Kd.F_mono (ok' := fun k => w.heap.size ≤ k) (Kd.F_grown (Kd.F_alloc (Kd.F_bound HF2.out) (.cells #[.slice none 0 0, .slice none 0 0] 53)) hg4 (fun k hk he => by have h2 := Option.some.inj he; have := hk.2; omega)) (fun k hk => hk.1))
  clear hC3 hb3 hg4
  by_cases ce : d.2.2 = 0
  · have hv1 := Aside0.mk (hvk.out.trans (if_pos ce))
    have ce2 : (d.2.2 == 0) = true := by rw [ce]; rfl
    clear ce
    obtain ⟨y0, y1⟩ := bx2 hC4
    go_wp2_with fail
    refine (kernel_Boot.calls A1 A2 c1 c2 d.1.1 d.1.2 (fun k => w.heap.size ≤ k) w4 HF14.out HF24.out HDL.out.1 HDL.out.2).mono ?_; rintro _ w5 ⟨cs5, rfl, hF5, hb5⟩
    have HKB := Aside0.mk (kerI_boot (ps := d.1.1) (qs := d.1.2))
    generalize bootK d.1.1 d.1.2 = q at hv1 hF5 HKB ⊢
    have HF5 := Aside0.mk (Kd.FK_mono (ok' := fun k => w.heap.size ≤ k ∧ k < w5.heap.size) (Kd.FK_bound hF5) (fun k hk => ⟨hk.1.elim (fun h => h) (fun h => by have := hb4.size; omega), hk.2⟩))
    obtain ⟨E1, j1, E2, j2, E3, j3, E4, j4, rfl, -, -, -, -, -, -, -, -⟩ := k66_openF hF5
    have hs4 := hb4.size
    have hs5 := hb5.size
    have hbA := below_step hb4 hb5
    have hS5 := blk_new w5 (.cells #[.int .i64 0, .slice none 0 0, .slice none 0 0, .slice none 0 0, .slice none 0 0, .int .i64 0] 66)
    have hb6 := below_alloc hbA (.cells #[.int .i64 0, .slice none 0 0, .slice none 0 0, .slice none 0 0, .slice none 0 0, .int .i64 0] 66)
    clear hF5 hb5 y0 y1 hC4 hb4 hb2 hs2
    go_wp2_with ((with_reducible refine gate_store (t := 66) (p := 9) (v := .tmp 35) rfl ?_); refine stop_ ?_)
    refine ⟨?_⟩
    refine stB (w0 := w) (base := w.heap.size) (seg := [.int .i64 q.1.f0, .slice E1 q.1.f1.length j1, .slice E2 q.1.f2.length j2, .slice E3 q.1.f3.length j3, .slice E4 q.1.f4.length j4, .int .i64 q.1.f5]) (cs' := [.int .i64 q.1.f0, .slice E1 q.1.f1.length j1, .slice E2 q.1.f2.length j2, .slice E3 q.1.f3.length j3, .slice E4 q.1.f4.length j4, .int .i64 q.1.f5]) hS5 hb6 (by omega) (h := fun w6 hS6 hb7 hg6 => ?_)
    have HF6 := Aside0.mk (Kd.FK_grown (Kd.FK_below HF5.out (bl1 (o := (.cells #[.int .i64 0, .slice none 0 0, .slice none 0 0, .slice none 0 0, .slice none 0 0, .int .i64 0] 66)))) hg6 (fun k hk he => by have h2 := Option.some.inj he; have := hk.2; omega))
    have hs6 := hg6.size
    rw [alsz] at hs6
    clear hS5 hb6 hg6 hbA
    by_cases cq : q.2 = 0
    · have hv2 := Aside0.mk (hv1.out.trans (if_pos cq))
      have cq2 : (q.2 == 0) = true := by rw [cq]; rfl
      have HKI := Aside0.mk (HKB.out cq)
      clear cq
      obtain ⟨x0, x1, x2, x3, x4, x5⟩ := bx6 hS6
      go_wp2_with fail
      refine (world_may.calls A c scr (fun k => ok k ∧ k < w.heap.size) w6 (Kd.F_below HS.out hb7) (by omega)).mono ?_; rintro _ w7 ⟨rfl, hb8⟩
      have hS7 := blk_below hS6 hb8
      have hbB := below_step hb7 hb8
      have hs7 := hb8.size
      have HF7 := Aside0.mk (Kd.FK_below HF6.out hb8)
      clear hS6 hb7 hb8 HF6 x0 x1 x2 x3 x4 x5
      by_cases cm : mayS scr = true
      · have hv3 := Aside0.mk (hv2.out.trans (if_pos cm))
        rw [cm]
        have HMS := Aside0.mk (mayS_le cm)
        clear cm
        obtain ⟨x0, x1, x2, x3, x4, x5⟩ := bx6 hS7
        have hn4 : q.1.f3.length ≤ 4 := (kerR_iff.1 HKI.out.1.1).2.2.2.1
        have hmk := fun W => mkV q.1.f3.length hn4 W
        go_wp2_with fail
        have hW0 := VW_made w7 q.1.f3.length w.heap.size (by omega)
        have hb9 := below_alloc hbB (.cells (cellsV q.1.f3.length (fun _ => nilV)).toArray 36)
        have hX9 := blk_al hS7 (.cells (cellsV q.1.f3.length (fun _ => nilV)).toArray 36)
        have hs9 : (w7.alloc (.cells (cellsV q.1.f3.length (fun _ => nilV)).toArray 36)).heap.size = w7.heap.size + 1 := alsz
        have hVO0 : ∀ k, VO w7.heap.size q.1.f3.length (fun _ => nilV) k → k = w7.heap.size := fun k hk => hk.elim id (fun ⟨j, _, h⟩ => by simp [Value.ownBlock] at h)
        have hP0 : PI w (w7.alloc (.cells (cellsV q.1.f3.length (fun _ => nilV)).toArray 36)) ok w5.heap.size w7.heap.size q.1.f3.length (q.1, List.replicate q.1.f3.length z36) [.int .i64 q.1.f0, .slice E1 q.1.f1.length j1, .slice E2 q.1.f2.length j2, .slice E3 q.1.f3.length j3, .slice E4 q.1.f4.length j4, .int .i64 q.1.f5] (fun _ => nilV) :=
          ⟨hX9, Kd.FK_mono (Kd.FK_below HF7.out bl1) (fun k hk => ⟨Or.inr hk.1, by have := hk.2; omega, fun h => by have := hVO0 k h; have := hk.2; omega⟩), hW0, fun h => by have := hVO0 _ h; omega, by omega, hb9⟩
        have HP0 := Aside0.mk hP0
        have hqn := hn4
        obtain ⟨q0, hq0⟩ : ∃ q0 : S66 × List S36, q0 = (q.1, List.replicate q.1.f3.length z36) := ⟨_, rfl⟩
        have HQ0 := Aside0.mk (show q0.1.f3.length = q.1.f3.length ∧ q0.2.length = q.1.f3.length ∧ kerI q0.1 ∧ q0.1.f5 = 0 by rw [hq0]; exact ⟨rfl, List.length_replicate, HKI.out.1, HKI.out.2⟩)
        have HPS := Aside0.mk (show playS q.1 scr = logN (stepsN scr q0 scr.length).1 (stepsN scr q0 scr.length).2 q.1.f3.length by rw [hq0]; rfl)
        have HSB := Aside0.mk (fun i p => stepsN_bd scr q0 HMS.out (fun p => by rw [hq0]; show ((List.replicate q.1.f3.length z36).getD p z36).f0.length = 0 ∧ ((List.replicate q.1.f3.length z36).getD p z36).f1.length = 0; rw [repl36]; exact ⟨rfl, rfl⟩) i p)
        rw [← hq0] at HP0
        clear hW0 hb9 hX9 hVO0 hP0 hmk hn4 hq0 HKI HKB
        generalize w7.alloc (.cells (cellsV q.1.f3.length (fun _ => nilV)).toArray 36) = w9 at HP0 ⊢
        generalize w5.heap.size = gS at HP0 ⊢
        generalize w7.heap.size = gV at HP0 ⊢
        generalize q.1.f3.length = n at HP0 HQ0 HPS hqn ⊢
        go_loopg [49] scr.length (fun k v49 wr => ∃ (i : Nat) (cs : List Value) (f : Nat → Value), i + k = scr.length ∧ v49 = .int .i64 i ∧ PI w wr ok gS gV n (stepsN scr q0 i) cs f)
        case atStart => exact ⟨0, _, _, by omega, by go_num, HP0.out⟩
        case round =>
          obtain ⟨i, cs, f, hi, rfl, hPI0⟩ := hrel
          by_cases ci : i < scr.length
          · obtain ⟨ad, Bx, dx, x, hAd, hx, e0, hdx, hFx⟩ := elAsksF HS.out i ci
            subst hAd
            have e0r := be_cell hPI0.hb e0
            have HFx := Aside0.mk hFx
            have hxl : x.length ≤ 9223372036854775807 := by have := (Kd.F_now hFx).2.1; omega
            have HSI := Aside0.mk (stepsN_I scr HQ0.out.2.2.1 HQ0.out.2.2.2 i (by omega))
            have HSL := Aside0.mk (stepsN_len scr q0 i)
            have HSS := Aside0.mk (show stepsN scr q0 (i + 1) = stepK (i : Int) x (stepsN scr q0 i) by show stepK (i : Int) (scr.getD i []) (stepsN scr q0 i) = _; rw [List.getD_eq_getElem?_getD, List.getElem?_eq_getElem ci, Option.getD_some, hx.out])
            have HQB := Aside0.mk (fun p => HSB.out i p)
            have hx100 : x.length ≤ 100 := by rw [← hx.out]; exact HMS.out _ (List.getElem_mem ci)
            generalize stepsN scr q0 i = qi at HQB hPI0 HSI HSL HSS
            have HPI0 := Aside0.mk hPI0
            clear hFx e0 hPI0
            go_wp2
            go_loopg [56] x.length (fun k v56 wr => ∃ (m : Nat) (cs : List Value) (f : Nat → Value), m + k = x.length ∧ v56 = .int .i64 m ∧ PI w wr ok gS gV n (asksN (i : Int) x qi m) cs f)
            case atStart => exact ⟨0, _, _, by omega, by go_num, HPI0.out⟩
            case round =>
              clear HPI0 e0r
              obtain ⟨m, cs, f, hm, rfl, hPI⟩ := hrel
              have HRL := Aside0.mk (show (asksN (i : Int) x qi m).1.f3.length = n ∧ (asksN (i : Int) x qi m).2.length = n from ⟨(asksN_len _ _ _ _).1.trans (HSL.out.1.trans HQ0.out.1), (asksN_len _ _ _ _).2.trans (HSL.out.2.trans HQ0.out.2.1)⟩)
              have HRI := Aside0.mk (asksN_I (i : Int) x HSI.out.1 m)
              by_cases cm : m < x.length
              · obtain ⟨adc, A7, c7, cmd, hAc, hcm, y0, y1, y2, y3, y4, y5, y6, y7, l7, g7⟩ := el46F HFx.out m cm
                subst hAc
                have HREC := Aside0.mk (show asksN (i : Int) x qi (m + 1) = ((doK (asksN (i : Int) x qi m).1 cmd).1, askV (i : Int) cmd (doK (asksN (i : Int) x qi m).1 cmd).2 (asksN (i : Int) x qi m).2) by show ((doK (asksN (i : Int) x qi m).1 (x.getD m z46)).1, askV (i : Int) (x.getD m z46) (doK (asksN (i : Int) x qi m).1 (x.getD m z46)).2 (asksN (i : Int) x qi m).2) = _; rw [List.getD_eq_getElem?_getD, List.getElem?_eq_getElem cm, Option.getD_some, hcm.out])
                have HBD := Aside0.mk (fun p => Nat.le_trans (asksN_bd (i : Int) x qi m p).1 (Nat.add_le_add_right (HQB.out p).1 m))
                generalize asksN (i : Int) x qi m = r at HBD hPI HRL HRI HREC
                have HCM := Aside0.mk (k46_mkF _ _ cmd l7 g7)
                obtain ⟨p, kd, ia, va, tk⟩ := cmd
                dsimp only at y0 y1 y2 y3 y4 y5 y6 y7 HCM
                have b0 := be_cell hPI.hb y0
                have b1 := be_cell hPI.hb y1
                have b2 := be_cell hPI.hb y2
                have b3 := be_cell hPI.hb y3
                have b4 := be_cell hPI.hb y4
                have b5 := be_cell hPI.hb y5
                have b6 := be_cell hPI.hb y6
                have b7 := be_cell hPI.hb y7
                obtain ⟨E1, j1, E2, j2, E3, j3, E4, j4, rfl, -, -, -, -, -, -, -, -⟩ := k66_openF hPI.hF
                clear y0 y1 y2 y3 y4 y5 y6 y7 l7 g7 hcm
                have hPI1 := hPI.bel (bl1 (o := (.cells #[.int .i64 p, .int .i64 kd, .int .i64 ia, .int .i64 va, .int .i64 tk.f0, .int .i64 tk.f1, .int .i64 tk.f2, .slice A7 tk.f3.length c7] 46)))
                have hC1 := blk_new wr (.cells #[.int .i64 p, .int .i64 kd, .int .i64 ia, .int .i64 va, .int .i64 tk.f0, .int .i64 tk.f1, .int .i64 tk.f2, .slice A7 tk.f3.length c7] 46)
                have hz1 : (wr.alloc (.cells #[.int .i64 p, .int .i64 kd, .int .i64 ia, .int .i64 va, .int .i64 tk.f0, .int .i64 tk.f1, .int .i64 tk.f2, .slice A7 tk.f3.length c7] 46)).heap.size = wr.heap.size + 1 := alsz
                obtain ⟨s0_, s1_, s2_, s3_, s4_, s5_⟩ := bx6 hPI1.hX
                go_wp2_with fail
                refine (kernel_Do.calls r.1 [.int .i64 r.1.f0, .slice E1 r.1.f1.length j1, .slice E2 r.1.f2.length j2, .slice E3 r.1.f3.length j3, .slice E4 r.1.f4.length j4, .int .i64 r.1.f5] ⟨p, kd, ia, va, tk⟩ [.int .i64 p, .int .i64 kd, .int .i64 ia, .int .i64 va, .int .i64 tk.f0, .int .i64 tk.f1, .int .i64 tk.f2, .slice A7 tk.f3.length c7] (okP w ok gS gV n f) _ hPI1.hF (Kd.FK_mono (Kd.FK_below HCM.out hPI1.hb) (fun k hk => ⟨Or.inl hk, by have := hPI.hg; have := hk.2; omega, fun h => by have := (hPI.hW.range h).1; have := hk.2; omega⟩)) HRI.out.1).mono ?_; rintro _ w3 ⟨cs3, rfl, hF3, hb3⟩
                have HF3 := Aside0.mk (Kd.FK_bound (Kd.FK_mono (ok' := okP w ok gS gV n f) hF3 (fun k hk => hk.elim (fun h => h) (fun h => ⟨Or.inr (by have := hPI1.hb.size; omega), by have := blk_lt hPI1.hX; omega, fun hv => by have := (hPI1.hW.range hv).2; omega⟩))))
                have hX3 := blk_below hPI1.hX hb3
                have hW3 := hPI1.hW.below hb3
                have hC3 := blk_below hC1 hb3
                have hb3a := below_step hPI1.hb hb3
                have hs3 := hb3.size
                generalize doK r.1 ⟨p, kd, ia, va, tk⟩ = dk at hF3 HF3 HREC ⊢
                obtain ⟨G1, k1, G2, k2, G3, k3, G4, k4, rfl, -, -, -, -, -, -, -, -⟩ := k66_openF hF3
                clear hF3 s0_ s1_ s2_ s3_ s4_ s5_ hPI1 hC1 hb3 b0 b1 b2 b3 b4 b5 b6 b7
                have hD4 := blk_new w3 (.cells #[.int .i64 0, .slice none 0 0, .slice none 0 0, .slice none 0 0, .slice none 0 0, .int .i64 0] 66)
                have hb4_ := below_alloc hb3a (.cells #[.int .i64 0, .slice none 0 0, .slice none 0 0, .slice none 0 0, .slice none 0 0, .int .i64 0] 66)
                have hC4_ := blk_al hC3 (.cells #[.int .i64 0, .slice none 0 0, .slice none 0 0, .slice none 0 0, .slice none 0 0, .int .i64 0] 66)
                obtain ⟨t0_, t1_, t2_, t3_, t4_, t5_, t6_, t7_⟩ := bx8 hC4_
                go_wp2_with ((with_reducible refine gate_store (t := 66) (p := 15) (v := .tmp 64) rfl ?_); refine stop_ ?_)
                refine ⟨?_⟩
                refine stB (w0 := w) (base := w.heap.size) (seg := [.int .i64 dk.1.f0, .slice G1 dk.1.f1.length k1, .slice G2 dk.1.f2.length k2, .slice G3 dk.1.f3.length k3, .slice G4 dk.1.f4.length k4, .int .i64 dk.1.f5]) (cs' := [.int .i64 dk.1.f0, .slice G1 dk.1.f1.length k1, .slice G2 dk.1.f2.length k2, .slice G3 dk.1.f3.length k3, .slice G4 dk.1.f4.length k4, .int .i64 dk.1.f5]) hD4 hb4_ (by have := hb3a.size; omega) (h := fun w5 hD5 hb5 hg5 => ?_)
                have hVk : ∀ k, VO gV n f k → k < w3.heap.size := fun k hk => (hW3.range hk).2
                have hXl := blk_lt hX3
                have hX5 := blk_grown (blk_al hX3 (.cells #[.int .i64 0, .slice none 0 0, .slice none 0 0, .slice none 0 0, .slice none 0 0, .int .i64 0] 66)) hg5 (fun he => by have h2 := Option.some.inj he; (try dsimp only at h2); omega)
                have hC5 := blk_grown hC4_ hg5 (fun he => by have h2 := Option.some.inj he; have := blk_lt hC3; omega)
                have hW5 := (hW3.below bl1).grown hg5 (fun k hk he => by have h2 := Option.some.inj he; have := hVk k hk; omega)
                have HF5 := Aside0.mk (Kd.FK_grown (Kd.FK_below HF3.out (bl1 (o := (.cells #[.int .i64 0, .slice none 0 0, .slice none 0 0, .slice none 0 0, .slice none 0 0, .int .i64 0] 66)))) hg5 (fun k hk he => by have h2 := Option.some.inj he; have := hk.2; omega))
                have hs5_ := hg5.size
                rw [alsz] at hs5_
                clear hD4 hb4_ hC4_ hg5 hX3 hW3 hC3 HF3 hb3a t0_ t1_ t2_ t3_ t4_ t5_ t6_ t7_
                obtain ⟨t0_, t1_, t2_, t3_, t4_, t5_, t6_, t7_⟩ := bx8 hC5
                by_cases ca : 0 ≤ p
                · obtain ⟨pn, rfl⟩ : ∃ pn : Nat, p = pn := ⟨p.toNat, by omega⟩
                  by_cases cb : (pn : Int) < n
                  · have hpn : pn < n := by omega
                    have hnS := hW5.hS pn hpn
                    obtain ⟨AS, cS, hfS⟩ := Kd.N_slice hnS
                    have hcel : w5.cell? ⟨gV, pn * 3, none⟩ = some (.slice AS (r.2.getD pn z36).f0.length cS) := by rw [Nat.mul_comm, hW5.cell (3 * pn) (by omega), hfS]
                    have HNS := Aside0.mk (Kd.N_mono (ok' := fun k => some k = (f (3 * pn)).ownBlock ∨ w5.heap.size ≤ k) hnS (fun k hk => Or.inl hk))
                    have HAV := Aside0.mk (show askV (i : Int) ⟨(pn : Int), kd, ia, va, tk⟩ dk.2 r.2 = r.2.set pn ⟨(r.2.getD pn z36).f0 ++ [⟨(i : Int), dk.2.1, dk.2.2⟩], (r.2.getD pn z36).f1, (r.2.getD pn z36).f2⟩ by
                      unfold askV
                      rw [if_pos ⟨ca, by show (pn : Int) < r.2.length; rw [HRL.out.2]; exact cb⟩]
                      dsimp only
                      rw [Int.toNat_natCast])
                    have hsl2 : (r.2.getD pn z36).f0.length ≤ 9223372036854775807 := (Kd.F_now (by rw [hfS] at hnS; exact Kd.N_F hnS)).2.1
                    clear hnS
                    go_wp2_with fail
                    refine st_ 18 (fun w' => w'.cell? (⟨gV, pn * 3, none⟩) = some (.slice AS (r.2.getD pn z36).f0.length cS) ∧ w'.cell? (⟨wr.heap.size, 0, none⟩) = some (.int .i64 pn) ∧ Below w.heap.size w w') [17] world_Play.tab18 world_Play.bits18 ⟨hcel, (blk_cell hC5 0).trans rfl, below_drew1 hb5⟩ (h := fun HT HW hHeld => ?_)
                    repeat (first | refine pn_ HT (h := ?_) | refine tn_ HT HW hHeld (h := ?_) | refine zn_ HT (h := ?_))
                    refine on_ HT (h := fun K hK => ?_)
                    refine ev_ (w1 := w5.drew.alloc (.cells #[.int .i64 (i : Int), .int .i64 dk.2.1, .int .i64 dk.2.2] 73)) (v := .slice (some ⟨w5.drew.heap.size, 0, none⟩) 1 1) (by go_simp; done) ?_
                    refine hK.out _ _ ⟨al_cell (hHeld.1) _, al_cell (hHeld.2.1) _, below_alloc (hHeld.2.2) _⟩ (fun hHeld => ?_)
                    refine nm_ (h := ?_)
                    repeat (first | refine pn_ HT (h := ?_) | refine tn_ HT HW hHeld (h := ?_) | refine zn_ HT (h := ?_))
                    refine on_ HT (h := fun K hK => ?_)
                    refine apN_step row73 (w0 := w) (base := w.heap.size) (cs := [.int .i64 (i : Int), .int .i64 dk.2.1, .int .i64 dk.2.2]) (p := ⟨(i : Int), dk.2.1, dk.2.2⟩) (okp := fun _ => False) (v := .slice AS (r.2.getD pn z36).f0.length cS) (Kd.N_drew (by have := HNS.out; rw [hfS] at this; exact this)) (k73_mkF _ _ ⟨(i : Int), dk.2.1, dk.2.2⟩) (fun k hk => hk.elim) (fun k hk => Or.inr hk) (below_drew1 hb5) (by have := hb5.size; exact this) (by have := HBD.out pn; omega) (h := fun v6 w6 hN6 hb6 hg6 hat6 => ?_)
                    have hs6_ := hg6.size
                    have hbB6 : Below w.heap.size w w6 := hb6
                    have hg6a : w5.grownBy w6 (f (3 * pn)).ownBlock := by rw [hfS]; exact ⟨hg6.os, hg6.tape, hg6.output, hg6.size, hg6.block⟩
                    have hat6a : v6.ownBlock = (f (3 * pn)).ownBlock ∨ ∃ b, v6.ownBlock = some b ∧ w5.heap.size ≤ b := by rw [hfS]; exact hat6
                    have hwn : ∀ k, (f (3 * pn)).ownBlock = some k → w.heap.size ≤ k ∧ k < w5.heap.size := fun k hk => hW5.own (3 * pn) k (by omega) hk
                    have hV6 := blk_grown hW5.hb hg6a (fun he => hW5.hv (3 * pn) (by omega) he.symm)
                    have hown : ∀ k, (f (3 * pn)).ownBlock = some k → k < wr.heap.size := fun k hk => (hPI.hW.own (3 * pn) k (by omega) hk).2
                    have hC6 := blk_grown hC5 hg6a (fun he => by have := hown _ he.symm; omega)
                    have hD6 := blk_grown hD5 hg6a (fun he => by have := hown _ he.symm; omega)
                    have hX6 := blk_grown hX5 hg6a (fun he => hPI.hn (Or.inr ⟨3 * pn, by omega, he.symm⟩))
                    have HF6 := Aside0.mk (Kd.FK_mono (ok' := (fun k => okP w ok gS gV n f k ∧ k < w3.heap.size)) (Kd.FK_grown HF5.out hg6a (fun k hk he => hk.1.2.2 (Or.inr ⟨3 * pn, by omega, he.symm⟩))) (fun k hk => hk))
                    refine hK.out _ _ ⟨by rw [blk_cell hV6, List.getElem?_toArray, cellsV_get _ _ _ (by omega), Nat.mul_comm, hfS], (blk_cell hC6 0).trans rfl, hbB6⟩ (fun hHeld => ?_)
                    refine nm_ (h := ?_)
                    repeat (first | refine pn_ HT (h := ?_) | refine tn_ HT HW hHeld (h := ?_) | refine zn_ HT (h := ?_))
                    refine ln_ HT (h := fun K hK => ?_)
                    obtain ⟨AT, cT, rfl⟩ := Kd.N_slice hN6
                    refine stB_step (w0 := w) (base := w.heap.size) (seg := [.slice AT ((r.2.getD pn z36).f0 ++ [(⟨(i : Int), dk.2.1, dk.2.2⟩ : S73)]).length cT]) (cs' := cellsV n (upd f (3 * pn) (.slice AT ((r.2.getD pn z36).f0 ++ [(⟨(i : Int), dk.2.1, dk.2.2⟩ : S73)]).length cT))) hV6 hbB6 hW5.hg (hfit := by rw [List.size_toArray, cellsV_len, List.length_singleton]; omega) (hc := by rw [Nat.mul_comm]; exact cellsV_upd n f (3 * pn) _ (by omega)) (h := fun w7 hV7 hb7 hg7 => ?_)
                    refine hK.out _ _ ?_
                    repeat (first | refine pn_ HT (h := ?_) | refine zn_ HT (h := ?_))
                    refine dn_ HT (h := ?_)
                    clear HT HW hHeld hK K
                    have hW7 := hW5.saw pn hpn ⟨(i : Int), dk.2.1, dk.2.2⟩ _ hg6a hN6 hat6a hg7 hV7
                    have hgS := blk_lt hPI.hX
                    have hgV := blk_lt hPI.hW.hb
                    have hVO2 : ∀ k, VO gV n (upd f (3 * pn) (.slice AT ((r.2.getD pn z36).f0 ++ [(⟨(i : Int), dk.2.1, dk.2.2⟩ : S73)]).length cT)) k → VO gV n f k ∨ w5.heap.size ≤ k := fun k hk => by
                      rcases hk with hk | ⟨j, hj, hk⟩
                      · exact Or.inl (Or.inl hk)
                      · by_cases hjp : j = 3 * pn
                        · subst hjp
                          rw [upd_same] at hk
                          rcases hat6a with h | ⟨b, h, hbl⟩
                          · rw [h] at hk; exact Or.inl (Or.inr ⟨3 * pn, hj, hk⟩)
                          · rw [h] at hk; exact Or.inr (by have := Option.some.inj hk; omega)
                        · rw [upd_ne _ _ hjp] at hk; exact Or.inl (Or.inr ⟨j, hj, hk⟩)
                    have hX7 := blk_grown hX6 hg7 (fun he => hPI.hn (Or.inl (Option.some.inj he)))
                    have hD7 := blk_grown hD6 hg7 (fun he => by have := Option.some.inj he; omega)
                    have HF7 := Aside0.mk (Kd.FK_mono (ok' := (fun k => okP w ok gS gV n f k ∧ k < w3.heap.size)) (Kd.FK_grown HF6.out hg7 (fun k hk he => hk.1.2.2 (Or.inl (Option.some.inj he)))) (fun k hk => hk))
                    clear hX6 hD6 hC6 HF6 hV6 hV7 hN6 hg6 hg6a hat6 hat6a hcel HNS hX5 hC5 hD5 HF5 t0_ t1_ t2_ t3_ t4_ t5_ t6_ t7_
                    obtain ⟨s0_, s1_, s2_, s3_, s4_, s5_⟩ := bx6 hD7
                    go_wp2_with ((with_reducible refine gate_store (t := 66) (p := 9) (v := .tmp 94) rfl ?_); refine stop_ ?_)
                    refine ⟨?_⟩
                    refine stB (w0 := w) (base := w.heap.size) (seg := [.int .i64 dk.1.f0, .slice G1 dk.1.f1.length k1, .slice G2 dk.1.f2.length k2, .slice G3 dk.1.f3.length k3, .slice G4 dk.1.f4.length k4, .int .i64 dk.1.f5]) (cs' := [.int .i64 dk.1.f0, .slice G1 dk.1.f1.length k1, .slice G2 dk.1.f2.length k2, .slice G3 dk.1.f3.length k3, .slice G4 dk.1.f4.length k4, .int .i64 dk.1.f5]) hX7 hb7 hPI.hg (h := fun wz hXz hbz hgz => ?_)
                    have HFz := Aside0.mk (Kd.FK_mono (ok' := okP w ok gS gV n (upd f (3 * pn) (.slice AT ((r.2.getD pn z36).f0 ++ [(⟨(i : Int), dk.2.1, dk.2.2⟩ : S73)]).length cT))) (Kd.FK_grown HF7.out hgz (fun k hk he => hk.1.2.1 (Option.some.inj he))) (fun k hk => ⟨hk.1.1, hk.1.2.1, fun h => (hVO2 k h).elim hk.1.2.2 (fun h => by have := hk.2; omega)⟩))
                    have hWz := Aside0.mk (hW7.grown hgz (fun k hk he => (hVO2 k hk).elim (fun h => hPI.hn (by rw [← Option.some.inj he]; exact h)) (fun h => by have := Option.some.inj he; omega)))
                    go_wp2
                    go_roundg (x.length - m - 1)
                    case measure => omega
                    case rel => exact ⟨m + 1, _, (upd f (3 * pn) (.slice AT ((r.2.getD pn z36).f0 ++ [(⟨(i : Int), dk.2.1, dk.2.2⟩ : S73)]).length cT)), by omega, by go_num, ⟨hXz, by rw [HREC.out]; exact HFz.out, by rw [HREC.out, HAV.out]; exact hWz.out, fun h => (hVO2 _ h).elim hPI.hn (fun h => by omega), hPI.hg, hbz⟩⟩
                  · obtain ⟨s0_, s1_, s2_, s3_, s4_, s5_⟩ := bx6 hD5
                    go_wp2_with ((with_reducible refine gate_store (t := 66) (p := 9) (v := .tmp 94) rfl ?_); refine stop_ ?_)
                    refine ⟨?_⟩
                    refine stB (w0 := w) (base := w.heap.size) (seg := [.int .i64 dk.1.f0, .slice G1 dk.1.f1.length k1, .slice G2 dk.1.f2.length k2, .slice G3 dk.1.f3.length k3, .slice G4 dk.1.f4.length k4, .int .i64 dk.1.f5]) (cs' := [.int .i64 dk.1.f0, .slice G1 dk.1.f1.length k1, .slice G2 dk.1.f2.length k2, .slice G3 dk.1.f3.length k3, .slice G4 dk.1.f4.length k4, .int .i64 dk.1.f5]) hX5 hb5 hPI.hg (h := fun wz hXz hbz hgz => ?_)
                    have HFz := Aside0.mk (Kd.FK_mono (ok' := okP w ok gS gV n f) (Kd.FK_grown HF5.out hgz (fun k hk he => hk.1.2.1 (Option.some.inj he))) (fun k hk => hk.1))
                    have hWz := Aside0.mk (hW5.grown hgz (fun k hk he => hPI.hn (by rw [← Option.some.inj he]; exact hk)))
                    go_wp2
                    go_roundg (x.length - m - 1)
                    case measure => omega
                    case rel => exact ⟨m + 1, _, f, by omega, by go_num, ⟨hXz, by rw [HREC.out]; exact HFz.out, by rw [HREC.out, show askV (i : Int) ⟨(pn : Int), kd, ia, va, tk⟩ dk.2 r.2 = r.2 from if_neg (fun h => by have h3 := h.2; rw [HRL.out.2] at h3; have h4 : (pn : Int) < n := h3; omega)]; exact hWz.out, hPI.hn, hPI.hg, hbz⟩⟩
                · obtain ⟨s0_, s1_, s2_, s3_, s4_, s5_⟩ := bx6 hD5
                  go_wp2_with ((with_reducible refine gate_store (t := 66) (p := 9) (v := .tmp 94) rfl ?_); refine stop_ ?_)
                  refine ⟨?_⟩
                  refine stB (w0 := w) (base := w.heap.size) (seg := [.int .i64 dk.1.f0, .slice G1 dk.1.f1.length k1, .slice G2 dk.1.f2.length k2, .slice G3 dk.1.f3.length k3, .slice G4 dk.1.f4.length k4, .int .i64 dk.1.f5]) (cs' := [.int .i64 dk.1.f0, .slice G1 dk.1.f1.length k1, .slice G2 dk.1.f2.length k2, .slice G3 dk.1.f3.length k3, .slice G4 dk.1.f4.length k4, .int .i64 dk.1.f5]) hX5 hb5 hPI.hg (h := fun wz hXz hbz hgz => ?_)
                  have HFz := Aside0.mk (Kd.FK_mono (ok' := okP w ok gS gV n f) (Kd.FK_grown HF5.out hgz (fun k hk he => hk.1.2.1 (Option.some.inj he))) (fun k hk => hk.1))
                  have hWz := Aside0.mk (hW5.grown hgz (fun k hk he => hPI.hn (by rw [← Option.some.inj he]; exact hk)))
                  go_wp2
                  go_roundg (x.length - m - 1)
                  case measure => omega
                  case rel => exact ⟨m + 1, _, f, by omega, by go_num, ⟨hXz, by rw [HREC.out]; exact HFz.out, by rw [HREC.out, show askV (i : Int) ⟨p, kd, ia, va, tk⟩ dk.2 r.2 = r.2 from if_neg (fun h => by have h1 : 0 ≤ p := h.1; omega)]; exact hWz.out, hPI.hn, hPI.hg, hbz⟩⟩
              · have hme : m = x.length := by omega
                subst hme
                have HSK := Aside0.mk (show stepK (i : Int) x qi = ((tickK (asksN (i : Int) x qi x.length).1).1, ranN (tickK (asksN (i : Int) x qi x.length).1).2 (asksN (i : Int) x qi x.length).2 n) by unfold stepK; rw [HRL.out.2])
                have HRA := Aside0.mk (show ∀ p, ((asksN (i : Int) x qi x.length).2.getD p z36).f1.length ≤ i from fun p => by rw [(asksN_bd (i : Int) x qi x.length p).2]; exact (HQB.out p).2)
                generalize asksN (i : Int) x qi x.length = r at hPI HRL HRI HSK HRA
                obtain ⟨E1, j1, E2, j2, E3, j3, E4, j4, rfl, -, -, -, -, -, -, -, -⟩ := k66_openF hPI.hF
                obtain ⟨s0_, s1_, s2_, s3_, s4_, s5_⟩ := bx6 hPI.hX
                go_wp2_with fail
                refine (kernel_Tick.calls r.1 [.int .i64 r.1.f0, .slice E1 r.1.f1.length j1, .slice E2 r.1.f2.length j2, .slice E3 r.1.f3.length j3, .slice E4 r.1.f4.length j4, .int .i64 r.1.f5] (okP w ok gS gV n f) wr hPI.hF HRI.out.1).mono ?_; rintro _ w3 ⟨cs3, AR, cR, rfl, hF3, hRan, hcR, hb3⟩
                have HF3 := Aside0.mk (Kd.FK_bound (Kd.FK_mono (ok' := okP w ok gS gV n f) hF3 (fun k hk => hk.elim (fun h => h) (fun h => ⟨Or.inr (by have := hPI.hb.size; omega), by have := blk_lt hPI.hX; omega, fun hv => by have := (hPI.hW.range hv).2; omega⟩))))
                have HRN := Aside0.mk (Kd.F_bound hRan)
                have hX3 := blk_below hPI.hX hb3
                have hW3 := hPI.hW.below hb3
                have hb3a := below_step hPI.hb hb3
                have hs3 := hb3.size
                have HTL := Aside0.mk (show (tickK r.1).2.length = n from (tickRan_len _ _ _).trans HRL.out.1)
                generalize tickK r.1 = tk at hF3 HF3 HRN HSK HTL hcR ⊢
                obtain ⟨G1, k1, G2, k2, G3, k3, G4, k4, rfl, -, -, -, -, -, -, -, -⟩ := k66_openF hF3
                clear hF3 hRan s0_ s1_ s2_ s3_ s4_ s5_ hb3
                have hD4 := blk_new w3 (.cells #[.int .i64 0, .slice none 0 0, .slice none 0 0, .slice none 0 0, .slice none 0 0, .int .i64 0] 66)
                have hb4_ := below_alloc hb3a (.cells #[.int .i64 0, .slice none 0 0, .slice none 0 0, .slice none 0 0, .slice none 0 0, .int .i64 0] 66)
                go_wp2_with ((with_reducible refine gate_store (t := 66) (p := 18) (v := .tmp 99) rfl ?_); refine stop_ ?_)
                refine ⟨?_⟩
                refine stB (w0 := w) (base := w.heap.size) (seg := [.int .i64 tk.1.f0, .slice G1 tk.1.f1.length k1, .slice G2 tk.1.f2.length k2, .slice G3 tk.1.f3.length k3, .slice G4 tk.1.f4.length k4, .int .i64 tk.1.f5]) (cs' := [.int .i64 tk.1.f0, .slice G1 tk.1.f1.length k1, .slice G2 tk.1.f2.length k2, .slice G3 tk.1.f3.length k3, .slice G4 tk.1.f4.length k4, .int .i64 tk.1.f5]) hD4 hb4_ (by have := hb3a.size; omega) (h := fun w5 hD5 hb5 hg5 => ?_)
                have hVk : ∀ k, VO gV n f k → k < wr.heap.size := fun k hk => (hPI.hW.range hk).2
                have hgS := blk_lt hPI.hX
                have hX5 := blk_grown (blk_al hX3 (.cells #[.int .i64 0, .slice none 0 0, .slice none 0 0, .slice none 0 0, .slice none 0 0, .int .i64 0] 66)) hg5 (fun he => by have h2 := Option.some.inj he; (try dsimp only at h2); omega)
                have hW5 := (hW3.below bl1).grown hg5 (fun k hk he => by have h2 := Option.some.inj he; have := hVk k hk; omega)
                have HF5 := Aside0.mk (Kd.FK_grown (Kd.FK_below HF3.out (bl1 (o := (.cells #[.int .i64 0, .slice none 0 0, .slice none 0 0, .slice none 0 0, .slice none 0 0, .int .i64 0] 66)))) hg5 (fun k hk he => by have h2 := Option.some.inj he; have := hk.2; omega))
                have HRN5 := Aside0.mk (Kd.F_grown (Kd.F_below HRN.out (bl1 (o := (.cells #[.int .i64 0, .slice none 0 0, .slice none 0 0, .slice none 0 0, .slice none 0 0, .int .i64 0] 66)))) hg5 (fun k hk he => by have h2 := Option.some.inj he; have := hk.2; omega))
                have hs5_ := hg5.size
                rw [alsz] at hs5_
                have hwr := hPI.hb.size
                obtain ⟨g18, hg18⟩ : ∃ g18, g18 = w3.heap.size := ⟨_, rfl⟩
                rw [← hg18] at hD5 hs5_ hs3 HF5 HRN5 ⊢
                obtain ⟨gT, hgT⟩ : ∃ gT, gT = wr.heap.size := ⟨_, rfl⟩
                rw [← hgT] at hVk hgS hs3 hwr HRN5
                clear hgT
                clear hD4 hb4_ hg5 hX3 hW3 HF3 HRN hb3a hg18
                go_wp2
                rw [HTL.out]
                go_loopg [104] n (fun k v104 wq => ∃ (p : Nat) (f : Nat → Value), p + k = n ∧ v104 = .int .i64 p ∧ VW wq w.heap.size gV n f (ranN tk.2 r.2 p) ∧ wq.heap[gS]? = some (.cells #[.int .i64 r.1.f0, .slice E1 r.1.f1.length j1, .slice E2 r.1.f2.length j2, .slice E3 r.1.f3.length j3, .slice E4 r.1.f4.length j4, .int .i64 r.1.f5] 66 (0, 0)) ∧ wq.heap[g18]? = some (.cells #[.int .i64 tk.1.f0, .slice G1 tk.1.f1.length k1, .slice G2 tk.1.f2.length k2, .slice G3 tk.1.f3.length k3, .slice G4 tk.1.f4.length k4, .int .i64 tk.1.f5] 66 (0, 0)) ∧ Kd.FK k66 wq (fun k => (((ok k ∧ k < w.heap.size) ∨ w.heap.size ≤ k) ∧ k ≠ gS ∧ ¬ VO gV n f k) ∧ k < g18) tk.1 [.int .i64 tk.1.f0, .slice G1 tk.1.f1.length k1, .slice G2 tk.1.f2.length k2, .slice G3 tk.1.f3.length k3, .slice G4 tk.1.f4.length k4, .int .i64 tk.1.f5] ∧ Kd.F (Kd.int .i64) wq (fun k => gT ≤ k ∧ k < g18) AR tk.2.length tk.2 ∧ (∀ k, VO gV n f k → k < gT ∨ w5.heap.size ≤ k) ∧ ¬ VO gV n f gS ∧ Below w.heap.size w wq ∧ w5.heap.size ≤ wq.heap.size)
                case atStart => exact ⟨0, f, by omega, by go_num, hW5, hX5, hD5, HF5.out, HRN5.out, fun k hk => Or.inl (hVk k hk), hPI.hn, hb5, Nat.le_refl _⟩
                case round =>
                  clear hW5 hX5 hD5 HF5 HRN5 hb5 hVk
                  obtain ⟨p, f, hp, rfl, hW, hX, hD, hFK, hRN, hVB, hVn, hbq, hsq⟩ := hrel
                  have HFK := Aside0.mk hFK
                  have HRN := Aside0.mk hRN
                  clear hFK hRN
                  by_cases cp : p < n
                  · have hnR := hW.hR p cp
                    obtain ⟨AS, cS, hfS⟩ := Kd.N_slice hnR
                    have hcel : wr.cell? ⟨gV, p * 3 + 1, none⟩ = some (.slice AS ((ranN tk.2 r.2 p).getD p z36).f1.length cS) := by rw [Nat.mul_comm, hW.cell (3 * p + 1) (by omega), hfS]
                    have HNS := Aside0.mk (Kd.N_mono (ok' := fun k => some k = (f (3 * p + 1)).ownBlock ∨ wr.heap.size ≤ k) hnR (fun k hk => Or.inl hk))
                    have hbd : ((ranN tk.2 r.2 p).getD p z36).f1.length ≤ i := by rw [(ranN_bd tk.2 r.2 p p).2.1 (Nat.le_refl _)]; exact HRA.out p
                    have hptk : p < tk.2.length := by rw [HTL.out]; exact cp
                    obtain ⟨adR, xr, hAR, hxr, er⟩ := elI (Kd.F_now HRN.out) p hptk
                    subst hAR
                    have HRS := Aside0.mk (show ranN tk.2 r.2 (p + 1) = (ranN tk.2 r.2 p).set p ⟨((ranN tk.2 r.2 p).getD p z36).f0, ((ranN tk.2 r.2 p).getD p z36).f1 ++ [xr], ((ranN tk.2 r.2 p).getD p z36).f2⟩ by
                      show (ranN tk.2 r.2 p).set p ⟨_, _ ++ [tk.2.getD p 0], _⟩ = _
                      rw [show tk.2.getD p 0 = xr by rw [List.getD_eq_getElem?_getD, List.getElem?_eq_getElem hptk, Option.getD_some, hxr.out]])
                    have htl := HTL.out
                    clear hnR
                    generalize ranN tk.2 r.2 p = vq at hW hcel HNS hbd HRS hfS
                    go_wp2_with fail
                    refine st_ 16 (fun w' => w'.cell? (⟨gV, p * 3 + 1, none⟩) = some (.slice AS (vq.getD p z36).f1.length cS) ∧ w'.cell? (adR.add p) = some (.int .i64 xr) ∧ Below w.heap.size w w') [15] world_Play.tab25 world_Play.bits25 ⟨hcel, er, below_drew1 hbq⟩ (h := fun HT HW hHeld => ?_)
                    repeat (first | refine pn_ HT (h := ?_) | refine tn_ HT HW hHeld (h := ?_) | refine zn_ HT (h := ?_))
                    refine on_ HT (h := fun K hK => ?_)
                    refine ev_ (w1 := wr.drew.alloc (.cells #[.int .i64 xr] 3)) (v := .slice (some ⟨wr.drew.heap.size, 0, none⟩) 1 1) (by go_simp; done) ?_
                    refine hK.out _ _ ⟨al_cell (hHeld.1) _, al_cell (hHeld.2.1) _, below_alloc (hHeld.2.2) _⟩ (fun hHeld => ?_)
                    refine nm_ (h := ?_)
                    repeat (first | refine pn_ HT (h := ?_) | refine tn_ HT HW hHeld (h := ?_) | refine zn_ HT (h := ?_))
                    refine on_ HT (h := fun K hK => ?_)
                    refine apN_step row3 (w0 := w) (base := w.heap.size) (cs := [.int .i64 xr]) (p := xr) (okp := fun _ => False) (v := .slice AS (vq.getD p z36).f1.length cS) (Kd.N_drew (by have := HNS.out; rw [hfS] at this; exact this)) (by intro W' _; rfl) (fun k hk => hk.elim) (fun k hk => Or.inr hk) (below_drew1 hbq) (by have := hbq.size; exact this) (by omega) (h := fun v6 w6 hN6 hb6 hg6 hat6 => ?_)
                    have hs6_ : wr.heap.size ≤ w6.heap.size := hg6.size
                    have hbB6 : Below w.heap.size w w6 := hb6
                    have hg6a : wr.grownBy w6 (f (3 * p + 1)).ownBlock := by rw [hfS]; exact ⟨hg6.os, hg6.tape, hg6.output, hg6.size, hg6.block⟩
                    have hat6a : v6.ownBlock = (f (3 * p + 1)).ownBlock ∨ ∃ b, v6.ownBlock = some b ∧ wr.heap.size ≤ b := by rw [hfS]; exact hat6
                    have hownV : ∀ k, (f (3 * p + 1)).ownBlock = some k → VO gV n f k := fun k hk => Or.inr ⟨3 * p + 1, by omega, hk⟩
                    have hV6 := blk_grown hW.hb hg6a (fun he => hW.hv (3 * p + 1) (by omega) he.symm)
                    have hD6 := blk_grown hD hg6a (fun he => by have := hVB _ (hownV _ he.symm); omega)
                    have hX6 := blk_grown hX hg6a (fun he => hVn (hownV _ he.symm))
                    have HF6 := Aside0.mk (Kd.FK_mono (ok' := (fun k => (((ok k ∧ k < w.heap.size) ∨ w.heap.size ≤ k) ∧ k ≠ gS ∧ ¬ VO gV n f k) ∧ k < g18)) (Kd.FK_grown HFK.out hg6a (fun k hk he => hk.1.2.2 (hownV _ he.symm))) (fun k hk => hk))
                    have HRN6 := Aside0.mk (Kd.F_mono (ok' := fun k => gT ≤ k ∧ k < g18) (Kd.F_grown HRN.out hg6a (fun k hk he => by have := hVB _ (hownV _ he.symm); omega)) (fun k hk => hk))
                    have er6 := (elI (Kd.F_now HRN6.out) p hptk)
                    obtain ⟨ad6, xr6, ha6, hx6, er6⟩ := er6
                    obtain rfl := Option.some.inj ha6
                    have hx67 : xr6 = xr := by rw [← hx6.out, ← hxr.out]
                    rw [hx67] at er6
                    refine hK.out _ _ ⟨by rw [blk_cell hV6, List.getElem?_toArray, cellsV_get _ _ _ (by omega), Nat.mul_comm, hfS], er6, hbB6⟩ (fun hHeld => ?_)
                    refine nm_ (h := ?_)
                    repeat (first | refine pn_ HT (h := ?_) | refine tn_ HT HW hHeld (h := ?_) | refine zn_ HT (h := ?_))
                    refine ln_ HT (h := fun K hK => ?_)
                    obtain ⟨AT, cT, rfl⟩ := Kd.N_slice hN6
                    refine stB_step (w0 := w) (base := w.heap.size) (seg := [.slice AT ((vq.getD p z36).f1 ++ [xr]).length cT]) (cs' := cellsV n (upd f (3 * p + 1) (.slice AT ((vq.getD p z36).f1 ++ [xr]).length cT))) hV6 hbB6 hW.hg (hfit := by rw [List.size_toArray, cellsV_len, List.length_singleton]; omega) (hc := by rw [Nat.mul_comm]; exact cellsV_upd n f (3 * p + 1) _ (by omega)) (h := fun w7 hV7 hb7 hg7 => ?_)
                    refine hK.out _ _ ?_
                    repeat (first | refine pn_ HT (h := ?_) | refine zn_ HT (h := ?_))
                    refine dn_ HT (h := ?_)
                    clear HT HW hHeld hK K
                    have hW7 := hW.ran p cp xr _ hg6a hN6 hat6a hg7 hV7
                    have hVO2 : ∀ k, VO gV n (upd f (3 * p + 1) (.slice AT ((vq.getD p z36).f1 ++ [xr]).length cT)) k → VO gV n f k ∨ w5.heap.size ≤ k := fun k hk => by
                      rcases hk with hk | ⟨j, hj, hk⟩
                      · exact Or.inl (Or.inl hk)
                      · by_cases hjp : j = 3 * p + 1
                        · subst hjp
                          rw [upd_same] at hk
                          rcases hat6a with h | ⟨b, h, hbl⟩
                          · rw [h] at hk; exact Or.inl (Or.inr ⟨3 * p + 1, hj, hk⟩)
                          · rw [h] at hk; exact Or.inr (by have := Option.some.inj hk; omega)
                        · rw [upd_ne _ _ hjp] at hk; exact Or.inl (Or.inr ⟨j, hj, hk⟩)
                    have hX7 := blk_grown hX6 hg7 (fun he => hVn (Or.inl (Option.some.inj he)))
                    have hD7 := blk_grown hD6 hg7 (fun he => by have := hVB gV (Or.inl rfl); have := Option.some.inj he; omega)
                    have HF7 := Aside0.mk (Kd.FK_mono (ok' := (fun k => (((ok k ∧ k < w.heap.size) ∨ w.heap.size ≤ k) ∧ k ≠ gS ∧ ¬ VO gV n f k) ∧ k < g18)) (Kd.FK_grown HF6.out hg7 (fun k hk he => hk.1.2.2 (Or.inl (Option.some.inj he)))) (fun k hk => hk))
                    have HRN7 := Aside0.mk (Kd.F_mono (ok' := fun k => gT ≤ k ∧ k < g18) (Kd.F_grown HRN6.out hg7 (fun k hk he => by have := hVB gV (Or.inl rfl); have := Option.some.inj he; omega)) (fun k hk => hk))
                    have hs7_ := hg7.size
                    clear hX6 hD6 HF6 HRN6 hV6 hV7 hN6 hg6 hg6a hat6 hat6a hcel HNS hX hD
                    go_wp2
                    go_roundg (n - p - 1)
                    case measure => omega
                    case rel => exact ⟨p + 1, _, by omega, by go_num, by rw [HRS.out]; exact hW7, hX7, hD7, Kd.FK_mono HF7.out (fun k hk => ⟨⟨hk.1.1, hk.1.2.1, fun h => (hVO2 k h).elim hk.1.2.2 (fun h => by have := hk.2; omega)⟩, hk.2⟩), HRN7.out, fun k hk => (hVO2 k hk).elim (hVB k) Or.inr, fun h => (hVO2 _ h).elim hVn (fun h => by omega), hb7, by omega⟩
                  · have hpe : p = n := by omega
                    subst hpe
                    obtain ⟨z0_, z1_, z2_, z3_, z4_, z5_⟩ := bx6 hD
                    go_wp2_with ((with_reducible refine gate_store (t := 66) (p := 9) (v := .tmp 123) rfl ?_); refine stop_ ?_)
                    refine ⟨?_⟩
                    refine stB (w0 := w) (base := w.heap.size) (seg := [.int .i64 tk.1.f0, .slice G1 tk.1.f1.length k1, .slice G2 tk.1.f2.length k2, .slice G3 tk.1.f3.length k3, .slice G4 tk.1.f4.length k4, .int .i64 tk.1.f5]) (cs' := [.int .i64 tk.1.f0, .slice G1 tk.1.f1.length k1, .slice G2 tk.1.f2.length k2, .slice G3 tk.1.f3.length k3, .slice G4 tk.1.f4.length k4, .int .i64 tk.1.f5]) hX hbq (by have := hPI.hg; omega) (h := fun wz hXz hbz hgz => ?_)
                    have HFz := Aside0.mk (Kd.FK_mono (ok' := okP w ok gS gV p f) (Kd.FK_grown HFK.out hgz (fun k hk he => hk.1.2.1 (Option.some.inj he))) (fun k hk => hk.1))
                    have hWz := hW.grown hgz (fun k hk he => hVn (by rw [← Option.some.inj he]; exact hk))
                    have HWz := Aside0.mk hWz
                    have hgg := hPI.hg
                    clear hWz hW
                    go_wp2
                    go_roundg (scr.length - i - 1)
                    case measure => omega
                    case rel => exact ⟨i + 1, _, f, by omega, by go_num, ⟨hXz, by rw [HSS.out, HSK.out]; exact HFz.out, by rw [HSS.out, HSK.out]; exact HWz.out, hVn, hgg, hbz⟩⟩
          · have hie : i = scr.length := by omega
            subst hie
            have HLN := HQ0.out
            have HSL := Aside0.mk (stepsN_len scr q0 scr.length)
            have HPI := Aside0.mk hPI0
            clear hPI0
            generalize stepsN scr q0 scr.length = qe at HPI HSL HPS
            obtain ⟨E1, j1, E2, j2, E3, j3, E4, j4, rfl, yl1, yg1, yl2, yg2, yl3, yg3, yl4, yg4⟩ := k66_openF HPI.out.hF
            go_wp2
            have HG3 := Aside0.mk yg3
            have hqe : qe.1.f3.length = n := HSL.out.1.trans HLN.1
            have hLW := HPI.out.hW.toLW (ok := ok)
            have hXe := HPI.out.hX
            have hbe := HPI.out.hb
            have hgg := HPI.out.hg
            have hgv := HPI.out.hW.hg
            have HNS := Aside0.mk (show gS ≠ gV from fun e => HPI.out.hn (Or.inl e))
            have HNG := Aside0.mk HPI.out.hn
            clear yl1 yg1 yl2 yg2 yl3 yg3 yl4 yg4
            go_loopg [127] n (fun k v127 wq => ∃ (p : Nat) (g : Nat → Value), p + k = n ∧ v127 = .int .i64 p ∧ LW w wq ok gV n g (logN qe.1 qe.2 p) ∧ wq.heap[gS]? = some (.cells #[.int .i64 qe.1.f0, .slice E1 qe.1.f1.length j1, .slice E2 qe.1.f2.length j2, .slice E3 qe.1.f3.length j3, .slice E4 qe.1.f4.length j4, .int .i64 qe.1.f5] 66 (0, 0)) ∧ Kd.F k80 wq (okP w ok gS gV n f) E3 qe.1.f3.length qe.1.f3 ∧ Below w.heap.size w wq)
            case atStart => exact ⟨0, f, by omega, by go_num, hLW, hXe, HG3.out, hbe⟩
            case round =>
              clear hLW hXe HG3 hbe
              obtain ⟨p, g, hp, rfl, hL, hX, hF, hbq⟩ := hrel
              have HF := Aside0.mk hF
              obtain ⟨z0_, z1_, z2_, z3_, z4_, z5_⟩ := bx6 hX
              clear hF
              by_cases cp : p < n
              · obtain ⟨adP, B0, d0, B1, d1, B2, d2, B3, d3, B4, d4, xp, hAP, hxp, a0_, a1_, a2_, a3_, a4_, -, -, -, -, -, -, -, -, m4, q4⟩ := el80F HF.out p (by omega)
                subst hAP
                have HLR := Aside0.mk (show logN qe.1 qe.2 (p + 1) = (logN qe.1 qe.2 p).set p ⟨((logN qe.1 qe.2 p).getD p z36).f0, ((logN qe.1 qe.2 p).getD p z36).f1, xp.f4⟩ by
                  show (logN qe.1 qe.2 p).set p ⟨_, _, (qe.1.f3.getD p z80).f4⟩ = _
                  rw [show qe.1.f3.getD p z80 = xp by rw [List.getD_eq_getElem?_getD, List.getElem?_eq_getElem (by omega), Option.getD_some, hxp.out]])
                have HQ4 := Aside0.mk (Kd.F_mono (ok' := fun k => nw ok w k ∧ k ≠ gV) q4 (fun k hk => ⟨hk.1.elim (fun h => Or.inl h.1) Or.inr, fun he => hk.2.2 (Or.inl he)⟩))
                clear q4
                generalize logN qe.1 qe.2 p = vq at hL HLR
                go_wp2_with ((with_reducible refine gate_store (t := 34) (p := 139) (v := .tmp 137) rfl ?_); refine stop_ ?_)
                refine ⟨?_⟩
                refine stB (w0 := w) (base := w.heap.size) (seg := [.slice B4 xp.f4.length d4]) (cs' := cellsV n (upd g (3 * p + 2) (.slice B4 xp.f4.length d4))) hL.hb hbq hgv (hfit := by rw [List.size_toArray, cellsV_len, List.length_singleton]; omega) (hc := by rw [Nat.mul_comm]; exact cellsV_upd n g (3 * p + 2) _ (by omega)) (h := fun w7 hV7 hb7 hg7 => ?_)
                have hL7 := Aside0.mk (hL.log p cp xp.f4 B4 d4 m4 HQ4.out hg7 hV7)
                have hX7 := blk_grown hX hg7 (fun he => HNS.out (Option.some.inj he))
                have HF7 := Aside0.mk (Kd.F_grown HF.out hg7 (fun k hk he => hk.2.2 (Or.inl (Option.some.inj he))))
                clear hL hV7 hg7 HQ4 a0_ a1_ a2_ a3_ a4_ z0_ z1_ z2_ z3_ z4_ z5_
                go_wp2
                go_roundg (n - p - 1)
                case measure => omega
                case rel => exact ⟨p + 1, _, by omega, by go_num, by rw [HLR.out]; exact hL7.out, hX7, HF7.out, hb7⟩
              · have hpe : p = n := by omega
                subst hpe
                have HROW := Aside0.mk (hL.row hqn hgv)
                have hll := hL.hl
                have HLL := Aside0.mk hll
                clear hL hll z0_ z1_ z2_ z3_ z4_ z5_
                go_wp2
                (try simp only [Exit.inBlock, Exit.then])
                refine bodyPost_ret (results_list (rs := [.tmp 4, .tmp 5]) rfl (by simp) (.tmp (.tmp .nil))) rfl ?_
                rw [hv3.out]
                dsimp only
                rw [HPS.out, HLL.out]
                have hrow := HROW.out
                rw [HLL.out] at hrow
                exact ⟨_, _, rfl, Nat.le_refl _, hrow, hbq⟩
      · have hv3 := Aside0.mk (hv2.out.trans (if_neg cm))
        have cm2 : mayS scr = false := by simpa using cm
        rw [cm2]
        clear cm
        go_wp2
        (try simp only [Exit.inBlock, Exit.then])
        refine bodyPost_ret (results_list (rs := [.tmp 4, .tmp 5]) rfl (by simp) (.tmp (.tmp .nil))) rfl ?_
        rw [hv3.out]
        exact ⟨none, 0, rfl, Nat.le_refl _, Kd.F_nil _ _ _, hbB⟩
    · have hv2 := Aside0.mk (hv1.out.trans (if_neg cq))
      have cq2 : (q.2 == 0) = false := by simpa using cq
      clear cq
      go_wp2
      (try simp only [Exit.inBlock, Exit.then])
      refine bodyPost_ret (results_list (rs := [.tmp 4, .tmp 5]) rfl (by simp) (.tmp (.tmp .nil))) rfl ?_
      rw [hv2.out]
      exact ⟨none, 0, rfl, Nat.le_refl _, Kd.F_nil _ _ _, hb7⟩
  · have hv1 := Aside0.mk (hvk.out.trans (if_neg ce))
    have ce2 : (d.2.2 == 0) = false := by simpa using ce
    clear ce
    go_wp2
    (try simp only [Exit.inBlock, Exit.then])
    refine bodyPost_ret (results_list (rs := [.tmp 4, .tmp 5]) rfl (by simp) (.tmp (.tmp .nil))) rfl ?_
    rw [hv1.out]
    exact ⟨none, 0, rfl, Nat.le_refl _, Kd.F_nil _ _ _, hb4⟩
end Go.Proofs.YtmngaagojkihbaaGreat.FTop
