/- Contracts of functions that the statement TopMeets reaches, and plain lemmas. No condition. -/
import Derived.Test.YtmngaagojkihbaaGreatY07
namespace Go.Proofs.YtmngaagojkihbaaGreat.FTop
open Go.RowKit Go.Proofs.YtmngaagojkihbaaGreatW.PrintWords Go.Proofs.YtmngaagojkihbaaGreatW.PrintLast Go.Proofs.YtmngaagojkihbaaGreatW.PrintMore
attribute [local go_sem] max2_int min2_int max_two min_two
set_option linter.unusedVariables false
set_option linter.unusedSimpArgs false
set_option maxHeartbeats 8000000
set_option maxRecDepth 100000
def tickP (s : S80) (given : Bool) (now : Int) : S80 × Int :=
  let js := missL now s.f3
  let r := if given then runJ s.f0 now (missLog now s.f4 s.f3) js else (-1, js, missLog now s.f4 s.f3)
  let q := if r.2.1.length = 0 then leaveL now s.f0.length (s.f0, s.f1, s.f2, r.2.2) else (s.f0, s.f1, s.f2, r.2.2)
  (⟨q.1, q.2.1, q.2.2.1, r.2.1, q.2.2.2⟩, r.1)
theorem part_Tick.calls (s : S80) (cs : List Value) (ok : Nat → Prop) (given : Bool) (now : Int) (w : World) (h : Kd.FK k80 w ok s cs) (hR : partR s = true) (hw : whenB now = true) :
    Calls Tryz.prog 37 #[.agg cs.toArray, .bool given, .int .i64 now] w fun e w' => ∃ cs', e = .returned (.tuple #[.agg cs'.toArray, .int .i64 (tickP s given now).2, .int .i64 0]) ∧ Kd.FK k80 w' (nw ok w) (tickP s given now).1 cs' ∧ Below w.heap.size w w' := by
  have hu := Tryz.underlying80
  obtain ⟨hR1, hR2, hR3, hR4⟩ := partR_iff.1 hR
  have hR5 : s.f2.length = s.f0.length := (polR_iff.1 hR2).2.1
  have hR6 : s.f0.length ≤ 8 := by have := (polR_iff.1 hR2).1; unfold taskA at this; rw [Bool.and_eq_true] at this; exact of_decide_eq_true this.2
  have hR7 : s.f3.length ≤ 32 := (jobA_iff2.1 hR3).2.1
  have HJA := Aside0.mk hR3
  have HL1 := Aside0.mk hR1
  have HL2 := Aside0.mk hR5
  have HR := Aside0.mk hR
  have HWN := Aside0.mk hw
  clear hR1 hR2 hR3 hR5 hR hw
  obtain ⟨A0, c0, A1, c1, A2, c2, A3, c3, A4, c4, rfl, l0, g0, l1, g1, l2, g2, l3, g3, l4, g4⟩ := k80_openF h
  have H := Aside0.mk h
  have G0 := Aside0.mk (Kd.F_bound g0)
  have G1 := Aside0.mk (Kd.F_bound g1)
  have G2 := Aside0.mk (Kd.F_bound g2)
  have G3 := Aside0.mk (Kd.F_bound g3)
  clear h g0 g1 g2 g3 g4
  go_enter Tryz.func37, Tryz.ntmps37
  go_wp2_with fail
  have hB0 := blk_al (blk_new w (.cells #[.slice A0 s.f0.length c0, .slice A1 s.f1.length c1, .slice A2 s.f2.length c2, .slice A3 s.f3.length c3, .slice A4 s.f4.length c4] 80)) (.cells #[.slice none 0 0, .slice none 0 0, .slice none 0 0, .slice none 0 0, .slice none 0 0] 80)
  have hRB := blk_new (w.alloc (.cells #[.slice A0 s.f0.length c0, .slice A1 s.f1.length c1, .slice A2 s.f2.length c2, .slice A3 s.f3.length c3, .slice A4 s.f4.length c4] 80)) (.cells #[.slice none 0 0, .slice none 0 0, .slice none 0 0, .slice none 0 0, .slice none 0 0] 80)
  have hb := @bl2 w (.cells #[.slice A0 s.f0.length c0, .slice A1 s.f1.length c1, .slice A2 s.f2.length c2, .slice A3 s.f3.length c3, .slice A4 s.f4.length c4] 80) (.cells #[.slice none 0 0, .slice none 0 0, .slice none 0 0, .slice none 0 0, .slice none 0 0] 80)
  have hz : (w.alloc (.cells #[.slice A0 s.f0.length c0, .slice A1 s.f1.length c1, .slice A2 s.f2.length c2, .slice A3 s.f3.length c3, .slice A4 s.f4.length c4] 80)).heap.size = w.heap.size + 1 := alsz
  rw [hz] at hRB
  refine (part_Right.calls s [.slice A0 s.f0.length c0, .slice A1 s.f1.length c1, .slice A2 s.f2.length c2, .slice A3 s.f3.length c3, .slice A4 s.f4.length c4] ok _ (Kd.FK_below H.out hb)).mono ?_; rintro e w2 ⟨rfl, hb2⟩
  rw [HR.out]
  have hB0' := Aside0.mk (blk_below hB0 hb2)
  have hRB' := Aside0.mk (blk_below hRB hb2)
  have hbA := below_step hb hb2
  clear hB0 hRB hb hb2
  obtain ⟨x0, x1, x2, x3, x4⟩ := bx5 hB0'.out
  go_wp2_with fail
  refine (part_when.calls now w2).mono ?_; rintro e w3 ⟨rfl, hb2⟩
  rw [HWN.out]
  have hB0 := Aside0.mk (blk_below hB0'.out hb2)
  have hRB := Aside0.mk (blk_below hRB'.out hb2)
  have hbB := below_step hbA hb2
  clear hB0' hRB' hb2 hbA x0 x1 x2 x3 x4
  obtain ⟨x0, x1, x2, x3, x4⟩ := bx5 hB0.out
  go_wp2_with fail
  refine (part_take.calls s [.slice A0 s.f0.length c0, .slice A1 s.f1.length c1, .slice A2 s.f2.length c2, .slice A3 s.f3.length c3, .slice A4 s.f4.length c4] ok now w3 (Kd.FK_below H.out hbB) hR4).mono ?_; rintro e w4 ⟨g, lv, rfl, hg, hB4, hN4, hb4⟩
  have hRB' := Aside0.mk (blk_below hRB.out hb4)
  have hbC := below_step hbB hb4
  clear x0 x1 x2 x3 x4 hB0
  have hgl := blk_lt hB4
  have hB4 : w4.heap[g]? = some (.cells #[lv, .int .i64 now, .slice A0 s.f0.length c0, .slice A1 s.f1.length c1, .slice A2 s.f2.length c2, .slice A3 s.f3.length c3, .slice A4 s.f4.length c4] 160 (0, 0)) := hB4
  have hs3 := hbB.size
  have hs4 := hb4.size
  go_wp2_with fail
  refine (hand_miss.calls w3.heap.size g lv s.f4 now s.f3 A3 c3 _ _ _ _ _ w4 hs4 hg hB4 hN4 (Kd.F_below G3.out hbC) l3 (by omega) (fun k hk => ⟨by omega, ne_own hN4 (by omega)⟩)).mono ?_
  rintro e w5 ⟨rfl, lv5, A5, c5, hB5, hN5, hc5, hF5, hb5, hk5, hr5⟩
  clear hB4
  have hRB3 := hRB.out
  have hbC0 := hbB
  have hb45 := Below.trans (Below.mono hb4 (Nat.le_refl _)) hb5
  have hgl5 := blk_lt hB5
  have hs5 := hb5.size
  generalize hjs : missL now s.f3 = js5 at hB5 hN5 hc5 hF5
  generalize hlg : missLog now s.f4 s.f3 = lg5 at hN5
  have HF5 := Aside0.mk hF5
  have HN5 := Aside0.mk hN5
  clear hF5
  cases given with
  | false =>
    have hv6 := Aside0.mk (show tickP s false now = (⟨(if js5.length = 0 then leaveL now s.f0.length (s.f0, s.f1, s.f2, lg5) else (s.f0, s.f1, s.f2, lg5)).1, (if js5.length = 0 then leaveL now s.f0.length (s.f0, s.f1, s.f2, lg5) else (s.f0, s.f1, s.f2, lg5)).2.1, (if js5.length = 0 then leaveL now s.f0.length (s.f0, s.f1, s.f2, lg5) else (s.f0, s.f1, s.f2, lg5)).2.2.1, js5, (if js5.length = 0 then leaveL now s.f0.length (s.f0, s.f1, s.f2, lg5) else (s.f0, s.f1, s.f2, lg5)).2.2.2⟩, -1) by unfold tickP; rw [hjs, hlg]; rfl)
    clear hjs hlg
    have hB6 := hB5
    have hb6 := hb45
    have hc6 := hc5
    have hN6 := HN5.out
    have hF6 := Kd.F_mono (ok' := fun k => w3.heap.size ≤ k ∧ k ≠ g ∧ some k ≠ lv5.ownBlock) HF5.out (fun k hk => ⟨by have := hk.1; omega, by have := hk.1; omega, hk.2⟩)
    have hw3 : w.heap.size + 2 ≤ w3.heap.size := blk_lt hRB3
    have hbt := Below.trans hbC0 (Below.mono hb6 (by omega))
    have hRBt6 := blk_below hRB3 hb6
    have hst := hb6.size
    have HF6 := Aside0.mk hF6
    have HN6 := Aside0.mk hN6
    have hown : ∀ k, k < w3.heap.size → some k ≠ lv5.ownBlock := fun k hk => ne_own hN6 hk
    clear hF6
    obtain ⟨y0, y1, y2, y3, y4, y5, y6⟩ := bx7 hB6
    by_cases ce : js5.length = 0
    · have ce2 : ((js5.length : Int) == 0) = true := by rw [ce]; rfl
      have hv2 := hv6.out
      rw [if_pos ce] at hv2
      have HV2 := Aside0.mk hv2
      clear hv2 ce hN6
      have T0 := Aside0.mk (Kd.F_mono (ok' := okH (fun k => ok k ∧ k < w.heap.size) w3.heap.size g lv5) (Kd.F_below G0.out hbt) (fun k hk => ⟨Or.inl hk, by omega, hown k (by omega)⟩))
      have T1 := Aside0.mk (Kd.F_mono (ok' := okH (fun k => ok k ∧ k < w.heap.size) w3.heap.size g lv5) (Kd.F_below G1.out hbt) (fun k hk => ⟨Or.inl hk, by omega, hown k (by omega)⟩))
      have T2 := Aside0.mk (Kd.F_mono (ok' := okH (fun k => ok k ∧ k < w.heap.size) w3.heap.size g lv5) (Kd.F_below G2.out hbt) (fun k hk => ⟨Or.inl hk, by omega, hown k (by omega)⟩))
      go_wp2_with fail
      refine (hand_leave.calls w3.heap.size g (fun k => ok k ∧ k < w.heap.size) lv5 lg5 now s.f0 s.f1 s.f2 A0 A1 A2 c0 c1 c2 _ _ w5 hst hg hB6 HN6.out T0.out T1.out T2.out l0 l1 l2 HL1.out HL2.out hR6).mono ?_
      rintro e w7 ⟨rfl, lv7, r0, r1, r2, B0, B1, B2, d0, d1, d2, lg7, hle, hB7, hN7, hF0, hF1, hF2, m0, m1, m2, hb7, hk7, hr7⟩
      have hRBt := (hb7.block _ (by omega)).trans hRBt6
      have hbt7 := Below.trans hbt (Below.mono hb7 (by omega))
      have hst7 := Nat.le_trans hst hb7.size
      have HF7 := Aside0.mk (Kd.F_mono (ok' := fun k => w3.heap.size ≤ k ∧ k ≠ g) (Kd.F_kept HF6.out hk7 (fun k hk hS => hS.elim hk.2.1 hk.2.2)) (fun k hk => ⟨hk.1, hk.2.1⟩))
      have hv7 := Aside0.mk (HV2.out.trans (by rw [hle]))
      clear hle HF6 HN6 y0 y1 y2 y3 y4 y5 y6
      obtain ⟨y0, y1, y2, y3, y4, y5, y6⟩ := bx7 hB7
      obtain ⟨A9, c9, rfl⟩ := Kd.N_slice hN7
      have h9 := (Kd.N_reads' hN7).2.1
      have HN9 := Aside0.mk (Kd.N_mono (ok' := fun k => w3.heap.size ≤ k ∧ k ≠ g) (N_tight flat38 hN7) (fun k hk => ⟨Kd.N_base hN7 k hk.symm, hN7.1 k hk.symm⟩))
      clear hN7
      go_wp2_with fail
      refine (hand_state.calls w3.heap.size g _ _ _ _ _ _ _ _ _ _ _ _ _ _ _ _ _ _ now w7 hst7 hg hB7).mono ?_
      rintro e wz ⟨rfl, hbs2, hks2⟩
      have hRBz := (hbs2.block _ (by omega)).trans hRBt
      have hbz := Below.trans hbt7 (Below.mono hbs2 (by omega))
      go_wp2_with ((with_reducible refine gate_store (t := 80) (p := 6) (v := .tmp 38) rfl ?_); refine stB (w0 := w) (base := w.heap.size) (seg := [.slice B0 r0.length d0, .slice B1 r1.length d1, .slice B2 r2.length d2, .slice A5 js5.length c5, .slice A9 lg7.length c9]) (cs' := [.slice B0 r0.length d0, .slice B1 r1.length d1, .slice B2 r2.length d2, .slice A5 js5.length c5, .slice A9 lg7.length c9]) hRBz hbz (by omega) (h := fun wy hBy hby hgy => ?_))
      (try simp only [Exit.inBlock, Exit.then])
      refine bodyPost_ret (results_list (rs := [.cell 6 80, .tmp 7, .tmp 8]) rfl (by simp) (.cell _ 80 _ (0, 0) _ rfl hBy Tryz.underlying80 rfl (by kernel_rfl) (.tmp (.tmp .nil)))) rfl ?_
      have hgo : ∀ k, k ≠ g → k ≠ w.heap.size + 1 → k < w7.heap.size → wy.heap[k]? = w7.heap[k]? := fun k h1 h2 hlt => (hgy.block k (Nat.lt_of_lt_of_le hlt hks2.1) (fun he => h2 (Option.some.inj he))).trans (hks2.2 k hlt h1)
      refine ⟨_, by rw [hv7.out]; rfl, by rw [hv7.out]; exact k80_mkF wy (nw ok w) ⟨r0, r1, r2, js5, lg7⟩ m0 (Kd.F_mono (Kd.F_step (W1 := wy) hF0 (fun k hk hlt => hgo k hk.2.1 (by rcases hk.1 with h | h; omega; omega) hlt)) (fun k hk => hk.1.elim (fun h => Or.inl h.1) (fun h => Or.inr (by omega)))) m1 (Kd.F_mono (Kd.F_step (W1 := wy) hF1 (fun k hk hlt => hgo k hk.2.1 (by rcases hk.1 with h | h; omega; omega) hlt)) (fun k hk => hk.1.elim (fun h => Or.inl h.1) (fun h => Or.inr (by omega)))) m2 (Kd.F_mono (Kd.F_step (W1 := wy) hF2 (fun k hk hlt => hgo k hk.2.1 (by rcases hk.1 with h | h; omega; omega) hlt)) (fun k hk => hk.1.elim (fun h => Or.inl h.1) (fun h => Or.inr (by omega)))) hc6 (Kd.F_mono (Kd.F_step (W1 := wy) HF7.out (fun k hk hlt => hgo k hk.2 (by have := hk.1; omega) hlt)) (fun k hk => Or.inr (by have := hk.1; omega))) h9 (Kd.F_mono (Kd.F_step (W1 := wy) (Kd.N_F HN9.out) (fun k hk hlt => hgo k hk.2 (by have := hk.1; omega) hlt)) (fun k hk => Or.inr (by have := hk.1; omega))), hby⟩
    · have ce2 : ((js5.length : Int) == 0) = false := by simpa using ce
      have hv7 := hv6.out
      rw [if_neg ce] at hv7
      have hv7 := Aside0.mk hv7
      clear ce
      have HF7 := Aside0.mk (Kd.F_mono (ok' := fun k => w3.heap.size ≤ k ∧ k ≠ g) HF6.out (fun k hk => ⟨hk.1, hk.2.1⟩))
      have hRBt := hRBt6
      have hbt7 := hbt
      have hst7 := hst
      have hB7 := hB6
      obtain ⟨A9, c9, rfl⟩ := Kd.N_slice hN6
      have h9 := (Kd.N_reads' hN6).2.1
      have HN9 := Aside0.mk (Kd.N_mono (ok' := fun k => w3.heap.size ≤ k ∧ k ≠ g) (N_tight flat38 hN6) (fun k hk => ⟨Kd.N_base hN6 k hk.symm, hN6.1 k hk.symm⟩))
      clear hN6 HN6
      go_wp2_with fail
      refine (hand_state.calls w3.heap.size g _ _ _ _ _ _ _ _ _ _ _ _ _ _ _ _ _ _ now w5 hst7 hg hB7).mono ?_
      rintro e wz ⟨rfl, hbs2, hks2⟩
      have hRBz := (hbs2.block _ (by omega)).trans hRBt
      have hbz := Below.trans hbt7 (Below.mono hbs2 (by omega))
      go_wp2_with ((with_reducible refine gate_store (t := 80) (p := 6) (v := .tmp 38) rfl ?_); refine stB (w0 := w) (base := w.heap.size) (seg := [.slice A0 s.f0.length c0, .slice A1 s.f1.length c1, .slice A2 s.f2.length c2, .slice A5 js5.length c5, .slice A9 lg5.length c9]) (cs' := [.slice A0 s.f0.length c0, .slice A1 s.f1.length c1, .slice A2 s.f2.length c2, .slice A5 js5.length c5, .slice A9 lg5.length c9]) hRBz hbz (by omega) (h := fun wy hBy hby hgy => ?_))
      (try simp only [Exit.inBlock, Exit.then])
      refine bodyPost_ret (results_list (rs := [.cell 6 80, .tmp 7, .tmp 8]) rfl (by simp) (.cell _ 80 _ (0, 0) _ rfl hBy Tryz.underlying80 rfl (by kernel_rfl) (.tmp (.tmp .nil)))) rfl ?_
      have hgo : ∀ k, k ≠ g → k ≠ w.heap.size + 1 → k < w5.heap.size → wy.heap[k]? = w5.heap[k]? := fun k h1 h2 hlt => (hgy.block k (Nat.lt_of_lt_of_le hlt hks2.1) (fun he => h2 (Option.some.inj he))).trans (hks2.2 k hlt h1)
      refine ⟨_, by rw [hv7.out]; rfl, by rw [hv7.out]; exact k80_mkF wy (nw ok w) ⟨s.f0, s.f1, s.f2, js5, lg5⟩ l0 (Kd.F_mono (Kd.F_step (W1 := wy) (Kd.F_below G0.out hbt) (fun k hk hlt => hgo k (by omega) (by omega) hlt)) (fun k hk => Or.inl hk.1)) l1 (Kd.F_mono (Kd.F_step (W1 := wy) (Kd.F_below G1.out hbt) (fun k hk hlt => hgo k (by omega) (by omega) hlt)) (fun k hk => Or.inl hk.1)) l2 (Kd.F_mono (Kd.F_step (W1 := wy) (Kd.F_below G2.out hbt) (fun k hk hlt => hgo k (by omega) (by omega) hlt)) (fun k hk => Or.inl hk.1)) hc6 (Kd.F_mono (Kd.F_step (W1 := wy) HF7.out (fun k hk hlt => hgo k hk.2 (by have := hk.1; omega) hlt)) (fun k hk => Or.inr (by have := hk.1; omega))) h9 (Kd.F_mono (Kd.F_step (W1 := wy) (Kd.N_F HN9.out) (fun k hk hlt => hgo k hk.2 (by have := hk.1; omega) hlt)) (fun k hk => Or.inr (by have := hk.1; omega))), hby⟩
  | true =>
    obtain ⟨y0, y1, y2, y3, y4, y5, y6⟩ := bx7 hB5
    have hja := HJA.out
    have hja5 : jobA s.f0 js5 = true := by rw [← hjs]; exact jobA_miss now hja
    have HJ5 := Aside0.mk hja5
    clear hja hja5
    go_wp2_with fail
    refine (hand_run.calls w3.heap.size g lv5 lg5 now s.f0 A0 c0 js5 A5 c5 _ _ _ _ (fun k => ok k ∧ k < w.heap.size) w5 hb45.size hg hB5 HN5.out (Kd.F_below G0.out (Below.trans hbC0 (Below.mono hb45 (by omega)))) HF5.out l0 hc5 HJ5.out (fun k hk => ⟨by omega, ne_own HN5.out (by omega)⟩) (fun k hk => ⟨by have := hk.1; omega, hk.2⟩)).mono ?_
    rintro e w6 ⟨rfl, lv6, A6, c6, hB6, hN6, hc6, hF6, hb56, hk6, hr6⟩
    clear y0 y1 y2 y3 y4 y5 y6
    have hq : tickP s true now = (⟨(if (runJ s.f0 now lg5 js5).2.1.length = 0 then leaveL now s.f0.length (s.f0, s.f1, s.f2, (runJ s.f0 now lg5 js5).2.2) else (s.f0, s.f1, s.f2, (runJ s.f0 now lg5 js5).2.2)).1, (if (runJ s.f0 now lg5 js5).2.1.length = 0 then leaveL now s.f0.length (s.f0, s.f1, s.f2, (runJ s.f0 now lg5 js5).2.2) else (s.f0, s.f1, s.f2, (runJ s.f0 now lg5 js5).2.2)).2.1, (if (runJ s.f0 now lg5 js5).2.1.length = 0 then leaveL now s.f0.length (s.f0, s.f1, s.f2, (runJ s.f0 now lg5 js5).2.2) else (s.f0, s.f1, s.f2, (runJ s.f0 now lg5 js5).2.2)).2.2.1, (runJ s.f0 now lg5 js5).2.1, (if (runJ s.f0 now lg5 js5).2.1.length = 0 then leaveL now s.f0.length (s.f0, s.f1, s.f2, (runJ s.f0 now lg5 js5).2.2) else (s.f0, s.f1, s.f2, (runJ s.f0 now lg5 js5).2.2)).2.2.2⟩, (runJ s.f0 now lg5 js5).1) := by unfold tickP; rw [hjs, hlg]; rfl
    generalize runJ s.f0 now lg5 js5 = rj at hB6 hN6 hc6 hF6 hq ⊢
    obtain ⟨rn, js6, lg6⟩ := rj
    dsimp only at hB6 hN6 hc6 hF6 hq ⊢
    have hv6 := Aside0.mk hq
    clear hq hjs hlg
    have hb6 := Below.trans hb45 hb56
    have hF6 := Kd.F_mono (ok' := fun k => w3.heap.size ≤ k ∧ k ≠ g ∧ some k ≠ lv6.ownBlock) hF6 (fun k hk => ⟨hk.1.elim (fun h => by have := h.1; omega) (fun h => by have := hb45.size; omega), hk.2⟩)
    have hw3 : w.heap.size + 2 ≤ w3.heap.size := blk_lt hRB3
    have hbt := Below.trans hbC0 (Below.mono hb6 (by omega))
    have hRBt6 := blk_below hRB3 hb6
    have hst := hb6.size
    have HF6 := Aside0.mk hF6
    have HN6 := Aside0.mk hN6
    have hown : ∀ k, k < w3.heap.size → some k ≠ lv6.ownBlock := fun k hk => ne_own hN6 hk
    clear hF6
    obtain ⟨y0, y1, y2, y3, y4, y5, y6⟩ := bx7 hB6
    by_cases ce : js6.length = 0
    · have ce2 : ((js6.length : Int) == 0) = true := by rw [ce]; rfl
      have hv2 := hv6.out
      rw [if_pos ce] at hv2
      have HV2 := Aside0.mk hv2
      clear hv2 ce hN6
      have T0 := Aside0.mk (Kd.F_mono (ok' := okH (fun k => ok k ∧ k < w.heap.size) w3.heap.size g lv6) (Kd.F_below G0.out hbt) (fun k hk => ⟨Or.inl hk, by omega, hown k (by omega)⟩))
      have T1 := Aside0.mk (Kd.F_mono (ok' := okH (fun k => ok k ∧ k < w.heap.size) w3.heap.size g lv6) (Kd.F_below G1.out hbt) (fun k hk => ⟨Or.inl hk, by omega, hown k (by omega)⟩))
      have T2 := Aside0.mk (Kd.F_mono (ok' := okH (fun k => ok k ∧ k < w.heap.size) w3.heap.size g lv6) (Kd.F_below G2.out hbt) (fun k hk => ⟨Or.inl hk, by omega, hown k (by omega)⟩))
      go_wp2_with fail
      refine (hand_leave.calls w3.heap.size g (fun k => ok k ∧ k < w.heap.size) lv6 lg6 now s.f0 s.f1 s.f2 A0 A1 A2 c0 c1 c2 _ _ w6 hst hg hB6 HN6.out T0.out T1.out T2.out l0 l1 l2 HL1.out HL2.out hR6).mono ?_
      rintro e w7 ⟨rfl, lv7, r0, r1, r2, B0, B1, B2, d0, d1, d2, lg7, hle, hB7, hN7, hF0, hF1, hF2, m0, m1, m2, hb7, hk7, hr7⟩
      have hRBt := (hb7.block _ (by omega)).trans hRBt6
      have hbt7 := Below.trans hbt (Below.mono hb7 (by omega))
      have hst7 := Nat.le_trans hst hb7.size
      have HF7 := Aside0.mk (Kd.F_mono (ok' := fun k => w3.heap.size ≤ k ∧ k ≠ g) (Kd.F_kept HF6.out hk7 (fun k hk hS => hS.elim hk.2.1 hk.2.2)) (fun k hk => ⟨hk.1, hk.2.1⟩))
      have hv7 := Aside0.mk (HV2.out.trans (by rw [hle]))
      clear hle HF6 HN6 y0 y1 y2 y3 y4 y5 y6
      obtain ⟨y0, y1, y2, y3, y4, y5, y6⟩ := bx7 hB7
      obtain ⟨A9, c9, rfl⟩ := Kd.N_slice hN7
      have h9 := (Kd.N_reads' hN7).2.1
      have HN9 := Aside0.mk (Kd.N_mono (ok' := fun k => w3.heap.size ≤ k ∧ k ≠ g) (N_tight flat38 hN7) (fun k hk => ⟨Kd.N_base hN7 k hk.symm, hN7.1 k hk.symm⟩))
      clear hN7
      go_wp2_with fail
      refine (hand_state.calls w3.heap.size g _ _ _ _ _ _ _ _ _ _ _ _ _ _ _ _ _ _ now w7 hst7 hg hB7).mono ?_
      rintro e wz ⟨rfl, hbs2, hks2⟩
      have hRBz := (hbs2.block _ (by omega)).trans hRBt
      have hbz := Below.trans hbt7 (Below.mono hbs2 (by omega))
      go_wp2_with ((with_reducible refine gate_store (t := 80) (p := 6) (v := .tmp 38) rfl ?_); refine stB (w0 := w) (base := w.heap.size) (seg := [.slice B0 r0.length d0, .slice B1 r1.length d1, .slice B2 r2.length d2, .slice A6 js6.length c6, .slice A9 lg7.length c9]) (cs' := [.slice B0 r0.length d0, .slice B1 r1.length d1, .slice B2 r2.length d2, .slice A6 js6.length c6, .slice A9 lg7.length c9]) hRBz hbz (by omega) (h := fun wy hBy hby hgy => ?_))
      (try simp only [Exit.inBlock, Exit.then])
      refine bodyPost_ret (results_list (rs := [.cell 6 80, .tmp 7, .tmp 8]) rfl (by simp) (.cell _ 80 _ (0, 0) _ rfl hBy Tryz.underlying80 rfl (by kernel_rfl) (.tmp (.tmp .nil)))) rfl ?_
      have hgo : ∀ k, k ≠ g → k ≠ w.heap.size + 1 → k < w7.heap.size → wy.heap[k]? = w7.heap[k]? := fun k h1 h2 hlt => (hgy.block k (Nat.lt_of_lt_of_le hlt hks2.1) (fun he => h2 (Option.some.inj he))).trans (hks2.2 k hlt h1)
      refine ⟨_, by rw [hv7.out]; rfl, by rw [hv7.out]; exact k80_mkF wy (nw ok w) ⟨r0, r1, r2, js6, lg7⟩ m0 (Kd.F_mono (Kd.F_step (W1 := wy) hF0 (fun k hk hlt => hgo k hk.2.1 (by rcases hk.1 with h | h; omega; omega) hlt)) (fun k hk => hk.1.elim (fun h => Or.inl h.1) (fun h => Or.inr (by omega)))) m1 (Kd.F_mono (Kd.F_step (W1 := wy) hF1 (fun k hk hlt => hgo k hk.2.1 (by rcases hk.1 with h | h; omega; omega) hlt)) (fun k hk => hk.1.elim (fun h => Or.inl h.1) (fun h => Or.inr (by omega)))) m2 (Kd.F_mono (Kd.F_step (W1 := wy) hF2 (fun k hk hlt => hgo k hk.2.1 (by rcases hk.1 with h | h; omega; omega) hlt)) (fun k hk => hk.1.elim (fun h => Or.inl h.1) (fun h => Or.inr (by omega)))) hc6 (Kd.F_mono (Kd.F_step (W1 := wy) HF7.out (fun k hk hlt => hgo k hk.2 (by have := hk.1; omega) hlt)) (fun k hk => Or.inr (by have := hk.1; omega))) h9 (Kd.F_mono (Kd.F_step (W1 := wy) (Kd.N_F HN9.out) (fun k hk hlt => hgo k hk.2 (by have := hk.1; omega) hlt)) (fun k hk => Or.inr (by have := hk.1; omega))), hby⟩
    · have ce2 : ((js6.length : Int) == 0) = false := by simpa using ce
      have hv7 := hv6.out
      rw [if_neg ce] at hv7
      have hv7 := Aside0.mk hv7
      clear ce
      have HF7 := Aside0.mk (Kd.F_mono (ok' := fun k => w3.heap.size ≤ k ∧ k ≠ g) HF6.out (fun k hk => ⟨hk.1, hk.2.1⟩))
      have hRBt := hRBt6
      have hbt7 := hbt
      have hst7 := hst
      have hB7 := hB6
      obtain ⟨A9, c9, rfl⟩ := Kd.N_slice hN6
      have h9 := (Kd.N_reads' hN6).2.1
      have HN9 := Aside0.mk (Kd.N_mono (ok' := fun k => w3.heap.size ≤ k ∧ k ≠ g) (N_tight flat38 hN6) (fun k hk => ⟨Kd.N_base hN6 k hk.symm, hN6.1 k hk.symm⟩))
      clear hN6 HN6
      go_wp2_with fail
      refine (hand_state.calls w3.heap.size g _ _ _ _ _ _ _ _ _ _ _ _ _ _ _ _ _ _ now w6 hst7 hg hB7).mono ?_
      rintro e wz ⟨rfl, hbs2, hks2⟩
      have hRBz := (hbs2.block _ (by omega)).trans hRBt
      have hbz := Below.trans hbt7 (Below.mono hbs2 (by omega))
      go_wp2_with ((with_reducible refine gate_store (t := 80) (p := 6) (v := .tmp 38) rfl ?_); refine stB (w0 := w) (base := w.heap.size) (seg := [.slice A0 s.f0.length c0, .slice A1 s.f1.length c1, .slice A2 s.f2.length c2, .slice A6 js6.length c6, .slice A9 lg6.length c9]) (cs' := [.slice A0 s.f0.length c0, .slice A1 s.f1.length c1, .slice A2 s.f2.length c2, .slice A6 js6.length c6, .slice A9 lg6.length c9]) hRBz hbz (by omega) (h := fun wy hBy hby hgy => ?_))
      (try simp only [Exit.inBlock, Exit.then])
      refine bodyPost_ret (results_list (rs := [.cell 6 80, .tmp 7, .tmp 8]) rfl (by simp) (.cell _ 80 _ (0, 0) _ rfl hBy Tryz.underlying80 rfl (by kernel_rfl) (.tmp (.tmp .nil)))) rfl ?_
      have hgo : ∀ k, k ≠ g → k ≠ w.heap.size + 1 → k < w6.heap.size → wy.heap[k]? = w6.heap[k]? := fun k h1 h2 hlt => (hgy.block k (Nat.lt_of_lt_of_le hlt hks2.1) (fun he => h2 (Option.some.inj he))).trans (hks2.2 k hlt h1)
      refine ⟨_, by rw [hv7.out]; rfl, by rw [hv7.out]; exact k80_mkF wy (nw ok w) ⟨s.f0, s.f1, s.f2, js6, lg6⟩ l0 (Kd.F_mono (Kd.F_step (W1 := wy) (Kd.F_below G0.out hbt) (fun k hk hlt => hgo k (by omega) (by omega) hlt)) (fun k hk => Or.inl hk.1)) l1 (Kd.F_mono (Kd.F_step (W1 := wy) (Kd.F_below G1.out hbt) (fun k hk hlt => hgo k (by omega) (by omega) hlt)) (fun k hk => Or.inl hk.1)) l2 (Kd.F_mono (Kd.F_step (W1 := wy) (Kd.F_below G2.out hbt) (fun k hk hlt => hgo k (by omega) (by omega) hlt)) (fun k hk => Or.inl hk.1)) hc6 (Kd.F_mono (Kd.F_step (W1 := wy) HF7.out (fun k hk hlt => hgo k hk.2 (by have := hk.1; omega) hlt)) (fun k hk => Or.inr (by have := hk.1; omega))) h9 (Kd.F_mono (Kd.F_step (W1 := wy) (Kd.N_F HN9.out) (fun k hk hlt => hgo k hk.2 (by have := hk.1; omega) hlt)) (fun k hk => Or.inr (by have := hk.1; omega))), hby⟩
end Go.Proofs.YtmngaagojkihbaaGreat.FTop
