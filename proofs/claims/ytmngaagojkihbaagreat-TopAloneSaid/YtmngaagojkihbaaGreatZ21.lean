/- Contracts of functions that the statement TopAlone reaches, and plain lemmas. No condition. -/
import Derived.Test.YtmngaagojkihbaaGreatZ20
namespace Go.Proofs.YtmngaagojkihbaaGreat.FTop
open Go.RowKit Go.Proofs.YtmngaagojkihbaaGreatW.PrintWords Go.Proofs.YtmngaagojkihbaaGreatW.PrintLast Go.Proofs.YtmngaagojkihbaaGreatW.PrintMore
attribute [local go_sem] max2_int min2_int max_two min_two
set_option linter.unusedVariables false
set_option linter.unusedSimpArgs false
set_option maxHeartbeats 8000000
set_option maxRecDepth 100000
def tickPs (wh now : Int) (ps : List S80) : List S80 := ps.mapIdx fun i p => (tickP p ((i : Int) == wh) now).1
def tickRan (wh now : Int) (ps : List S80) : List Int := ps.mapIdx fun i p => (tickP p ((i : Int) == wh) now).2
def midP (wh now : Int) (ps : List S80) (i : Nat) : List S80 := (tickPs wh now ps).take i ++ ps.drop i
theorem tickPs_len (wh now : Int) (ps : List S80) : (tickPs wh now ps).length = ps.length := List.length_mapIdx
theorem tickRan_len (wh now : Int) (ps : List S80) : (tickRan wh now ps).length = ps.length := List.length_mapIdx
theorem midP_len (wh now : Int) (ps : List S80) (i : Nat) (hi : i ≤ ps.length) : (midP wh now ps i).length = ps.length := by
  unfold midP; rw [List.length_append, List.length_take, List.length_drop, tickPs_len]; omega
theorem midP_step (wh now : Int) (ps : List S80) (i : Nat) (hi : i < ps.length) : (midP wh now ps i).set i (tickP ps[i] ((i : Int) == wh) now).1 = midP wh now ps (i + 1) := by
  have hl := tickPs_len wh now ps
  unfold midP
  rw [List.set_append_right _ _ (by rw [List.length_take]; omega), List.length_take, Nat.min_eq_left (by omega), Nat.sub_self, List.drop_eq_getElem_cons hi, List.set_cons_zero, List.take_succ_eq_append_getElem (by omega), List.append_assoc]
  have : (tickPs wh now ps)[i]'(by omega) = (tickP ps[i] ((i : Int) == wh) now).1 := by simp [tickPs]
  rw [this]; rfl
theorem midP_end (wh now : Int) (ps : List S80) : midP wh now ps ps.length = tickPs wh now ps := by
  unfold midP; rw [List.take_of_length_le (by rw [tickPs_len]; omega), List.drop_length, List.append_nil]
theorem ran_step (wh now : Int) (ps : List S80) (i : Nat) (hi : i < ps.length) : (tickRan wh now ps).take i ++ [(tickP ps[i] ((i : Int) == wh) now).2] = (tickRan wh now ps).take (i + 1) := by
  have hl := tickRan_len wh now ps
  rw [List.take_succ_eq_append_getElem (by omega)]
  have : (tickRan wh now ps)[i]'(by omega) = (tickP ps[i] ((i : Int) == wh) now).2 := by simp [tickRan]
  rw [this]
def tickLs (s : S66) : List S135 := if s.f5 % s.f0 = 0 then deliverL s.f4 else s.f4
def tickK (s : S66) : S66 × List Int := (⟨s.f0, s.f1, s.f2, tickPs (atI s.f0 s.f1 s.f5) s.f5 s.f3, tickLs s, s.f5 + 1⟩, tickRan (atI s.f0 s.f1 s.f5) s.f5 s.f3)
theorem kernel_Tick.calls (s : S66) (cs : List Value) (ok : Nat → Prop) (w : World) (h : Kd.FK k66 w ok s cs) (hR : kerR s = true) :
    Calls Tryz.prog 17 #[.agg cs.toArray] w fun e w' => ∃ cs' A c, e = .returned (.tuple #[.agg cs'.toArray, .slice A (tickK s).2.length c, .int .i64 0]) ∧ Kd.FK k66 w' (nw ok w) (tickK s).1 cs' ∧ Kd.F (Kd.int .i64) w' (fun k => w.heap.size ≤ k) A (tickK s).2.length (tickK s).2 ∧ (tickK s).2.length ≤ c ∧ Below w.heap.size w w' := by
  have hu := Tryz.underlying66
  have hu2 := Tryz.underlying61
  have hu3 := Tryz.underlying80
  have H := Aside0.mk (Kd.FK_bound h)
  obtain ⟨A1, c1, A2, c2, A3, c3, A4, c4, rfl, l1, g1, l2, g2, l3, g3, l4, g4⟩ := k66_openF (Kd.FK_bound h)
  obtain ⟨hp, ht, hfl, hl4, hpo, hn, -⟩ := kerR_iff.1 hR
  obtain ⟨hn0, hn1⟩ := hn
  obtain ⟨-, hf1, hf2⟩ := tabR_iff.1 ht
  have HR := Aside0.mk hR
  have HP := Aside0.mk hp
  have HT1 := Aside0.mk ht
  have HPO := Aside0.mk hpo
  have HWH := Aside0.mk (show whenB s.f5 = true by simp [whenB]; omega)
  have G1 := Aside0.mk g1
  have G2 := Aside0.mk g2
  have G3 := Aside0.mk g3
  have G4 := Aside0.mk g4
  clear h hR hp ht hpo hfl g1 g2 g3 g4
  have hb := @bl2 w (.cells #[.int .i64 s.f0, .slice A1 s.f1.length c1, .slice A2 s.f2.length c2, .slice A3 s.f3.length c3, .slice A4 s.f4.length c4, .int .i64 s.f5] 66) (.cells #[.int .i64 0, .slice none 0 0, .slice none 0 0, .slice none 0 0, .slice none 0 0, .int .i64 0] 66)
  have hz : ((w.alloc (.cells #[.int .i64 s.f0, .slice A1 s.f1.length c1, .slice A2 s.f2.length c2, .slice A3 s.f3.length c3, .slice A4 s.f4.length c4, .int .i64 s.f5] 66)).alloc (.cells #[.int .i64 0, .slice none 0 0, .slice none 0 0, .slice none 0 0, .slice none 0 0, .int .i64 0] 66)).heap.size = w.heap.size + 2 := by rw [alsz, alsz]
  have hX := blk_al (blk_new w (.cells #[.int .i64 s.f0, .slice A1 s.f1.length c1, .slice A2 s.f2.length c2, .slice A3 s.f3.length c3, .slice A4 s.f4.length c4, .int .i64 s.f5] 66)) (.cells #[.int .i64 0, .slice none 0 0, .slice none 0 0, .slice none 0 0, .slice none 0 0, .int .i64 0] 66)
  have hRb := blk_new (w.alloc (.cells #[.int .i64 s.f0, .slice A1 s.f1.length c1, .slice A2 s.f2.length c2, .slice A3 s.f3.length c3, .slice A4 s.f4.length c4, .int .i64 s.f5] 66)) (.cells #[.int .i64 0, .slice none 0 0, .slice none 0 0, .slice none 0 0, .slice none 0 0, .int .i64 0] 66)
  rw [show (w.alloc (.cells #[.int .i64 s.f0, .slice A1 s.f1.length c1, .slice A2 s.f2.length c2, .slice A3 s.f3.length c3, .slice A4 s.f4.length c4, .int .i64 s.f5] 66)).heap.size = w.heap.size + 1 from alsz] at hRb
  go_enter Tryz.func17, Tryz.ntmps17
  go_wp2_with fail
  refine (kernel_Right.calls s [.int .i64 s.f0, .slice A1 s.f1.length c1, .slice A2 s.f2.length c2, .slice A3 s.f3.length c3, .slice A4 s.f4.length c4, .int .i64 s.f5] (fun k => ok k ∧ k < w.heap.size) _ (Kd.FK_below H.out hb) HR.out).mono ?_; rintro _ w2 ⟨rfl, hb2⟩
  have hX2 := blk_below hX hb2
  have hR2 := blk_below hRb hb2
  have hbA := below_step hb hb2
  clear hX hRb hb hb2 hz
  obtain ⟨x0, x1, x2, x3, x4, x5⟩ := bx6 hX2
  have hm0 := Int.emod_nonneg s.f5 (show s.f0 ≠ 0 by omega)
  have hm1 := Int.emod_lt_of_pos s.f5 (show 0 < s.f0 by omega)
  by_cases cz : s.f5 % s.f0 = 0
  · have HLS := Aside0.mk (show tickLs s = deliverL s.f4 from if_pos cz)
    go_wp2_with fail
    refine (port_Deliver.calls A4 c4 s.f4 (fun k => ok k ∧ k < w.heap.size) _ (Kd.F_below G4.out hbA) l4 HPO.out).mono ?_; rintro _ w2a ⟨A4', c4', rfl, hc4, hF4, hb3⟩
    have hX2a := blk_below hX2 hb3
    have hR2a := blk_below hR2 hb3
    have hb2a := below_step hbA hb3
    have hl2 := (Array.getElem?_eq_some_iff.1 hR2).1
    have hF4a := Kd.F_mono (ok' := fun k => (ok k ∧ k < w.heap.size) ∨ w.heap.size + 2 ≤ k) hF4 (fun k hk => hk.elim Or.inl (fun h => Or.inr (by omega)))
    have hll : (deliverL s.f4).length = s.f4.length := by simp [deliverL]
    generalize deliverL s.f4 = ls at hF4a HLS hll
    have HFA := Aside0.mk hF4a
    clear hF4 hF4a hb3 x0 x1 x2 x3 x4 x5
    obtain ⟨x0, x1, x2, x3, x4, x5⟩ := bx6 hX2a
    go_wp2_with ((with_reducible refine gate_store (t := 64) (p := 26) (v := .tmp 25) rfl ?_); refine stop_ ?_)
    refine ⟨?_⟩
    refine stB (w0 := w) (base := w.heap.size) (seg := [.slice A4' s.f4.length c4']) (cs' := [.int .i64 s.f0, .slice A1 s.f1.length c1, .slice A2 s.f2.length c2, .slice A3 s.f3.length c3, .slice A4' s.f4.length c4', .int .i64 s.f5]) hX2a hb2a (Nat.le_refl _) (h := fun w3 hX3 hb3 hg3 => ?_)
    have hR3 := blk_grown hR2a hg3 (fun he => by have h2 := Option.some.inj he; (try dsimp only at h2); omega)
    have HF3 := Aside0.mk (Kd.F_grown HFA.out hg3 (fun k hk he => by have h2 := Option.some.inj he; (try dsimp only at h2); omega))
    clear x0 x1 x2 x3 x4 x5
    obtain ⟨x0, x1, x2, x3, x4, x5⟩ := bx6 hX3
    go_wp2_with fail
    have hl3 := (Array.getElem?_eq_some_iff.1 hR3).1
    clear x0 x1 x2 x3 x4 x5 hX2 hR2
    obtain ⟨x0, x1, x2, x3, x4, x5⟩ := bx6 hX3
    refine (table_At.calls s.f0 A1 c1 s.f1 s.f5 w3 (Kd.F_now (Kd.F_below G1.out hb3)) HT1.out hn0 (by omega)).mono ?_; rintro _ w4 ⟨rfl, hb4⟩
    have hX4 := blk_below hX3 hb4
    have hR4 := blk_below hR3 hb4
    have hb5 := below_step hb3 hb4
    have HF4 := Aside0.mk (Kd.F_below HF3.out hb4)
    have HTK := Aside0.mk (show tickK s = (⟨s.f0, s.f1, s.f2, tickPs (atI s.f0 s.f1 s.f5) s.f5 s.f3, ls, s.f5 + 1⟩, tickRan (atI s.f0 s.f1 s.f5) s.f5 s.f3) by unfold tickK; rw [HLS.out])
    generalize atI s.f0 s.f1 s.f5 = wh at HTK ⊢
    clear x0 x1 x2 x3 x4 x5 hX3 hR3 hb3 hb4 HF3 hl3
    obtain ⟨x0, x1, x2, x3, x4, x5⟩ := bx6 hX4
    go_wp2
    have hlP : (midP wh s.f5 s.f3 0).length = s.f3.length := midP_len _ _ _ _ (Nat.zero_le _)
    have hP0 : midP wh s.f5 s.f3 0 = s.f3 := by unfold midP; rw [List.take_zero, List.nil_append, List.drop_zero]
    have HK0 := Aside0.mk (k66_mkF w4 (fun k => (ok k ∧ k < w.heap.size) ∨ w.heap.size + 2 ≤ k) ⟨s.f0, s.f1, s.f2, s.f3, ls, s.f5⟩ l1 (Kd.F_mono (Kd.F_below G1.out hb5) (fun k hk => Or.inl hk)) l2 (Kd.F_mono (Kd.F_below G2.out hb5) (fun k hk => Or.inl hk)) l3 (Kd.F_mono (Kd.F_below G3.out hb5) (fun k hk => Or.inl hk)) (show ls.length ≤ c4' by rw [hll]; exact hc4) (show Kd.F k135 w4 _ A4' ls.length ls by rw [hll]; exact HF4.out))
    rw [show (S66.mk s.f0 s.f1 s.f2 s.f3 ls s.f5).f4.length = s.f4.length from hll] at HK0
    go_loopg [6, 35] s.f3.length (fun k v6 v35 wr => ∃ (i : Nat) (csI : List Value), i + k = s.f3.length ∧ v35 = .int .i64 i ∧ wr.heap[w.heap.size]? = some (.cells csI.toArray 66 (0, 0)) ∧ Kd.FK k66 wr (fun k => ((ok k ∧ k < w.heap.size) ∨ w.heap.size + 2 ≤ k) ∧ some k ≠ v6.ownBlock) ⟨s.f0, s.f1, s.f2, (midP wh s.f5 s.f3 i), ls, s.f5⟩ csI ∧ wr.heap[w.heap.size + 1]? = some (.cells #[.int .i64 0, .slice none 0 0, .slice none 0 0, .slice none 0 0, .slice none 0 0, .int .i64 0] 66 (0, 0)) ∧ Kd.N (Kd.int .i64) 3 wr w.heap.size (fun k => w.heap.size + 2 ≤ k) v6 ((tickRan wh s.f5 s.f3).take i) ∧ Below w.heap.size w wr)
    case atStart =>
      refine ⟨0, _, by omega, by go_num, hX4, Kd.FK_mono (by rw [hP0]; exact HK0.out) (fun k hk => ⟨hk, by simp [Value.ownBlock]⟩), hR4, ?_, hb5⟩
      rw [List.take_zero]; exact Kd.N_nil _ _ _ _ _
    case round =>
      clear x0 x1 x2 x3 x4 x5 hX4 hR4 HF4 HK0 hP0 hlP
      obtain ⟨i, csI, hi, rfl, hX, hFK, hRr, hN, hbr⟩ := hrel
      have HN := Aside0.mk hN
      have HFK := Aside0.mk hFK
      have hlr := (Array.getElem?_eq_some_iff.1 hRr).1
      have hown : ∀ k, u6.ownBlock = some k → w.heap.size + 2 ≤ k ∧ k < wr.heap.size := fun k hk => ⟨hN.1 k hk, Kd.N_lt hN k hk⟩
      have hl35 := tickRan_len wh s.f5 s.f3
      obtain ⟨E1, j1, E2, j2, E3, j3, E4, j4, rfl, y1, q1, y2, q2, y3, q3, y4, q4⟩ := k66_openF hFK
      have HQ1 := Aside0.mk (And.intro y1 q1)
      have HQ2 := Aside0.mk (And.intro y2 q2)
      have HQ3 := Aside0.mk (And.intro y3 q3)
      have HQ4 := Aside0.mk (And.intro y4 q4)
      clear y1 q1 y2 q2 y3 q3 y4 q4
      have hmp := midP_len wh s.f5 s.f3 i (by omega)
      dsimp only at hX hFK HFK
      rw [hmp, hll] at hX HFK
      have HX := Aside0.mk hX
      clear hFK hN hX
      obtain ⟨x0, x1, x2, x3, x4, x5⟩ := bx6 HX.out
      by_cases ci : i < s.f3.length
      · obtain ⟨adP, B0, d0, B1, d1, B2, d2, B3, d3, B4, d4, x, hAd, hx, e0, e1, e2, e3, e4, m0, q0, m1, q1, m2, q2, m3, q3, m4, q4⟩ := el80F (Kd.F_below G3.out hbr) i ci
        subst hAd
        have HK := Aside0.mk (k80_mkF _ _ x m0 q0 m1 q1 m2 q2 m3 q3 m4 q4)
        have HPR := Aside0.mk (show partR x = true by rw [← hx.out]; exact HP.out _ (List.getElem_mem ci))
        have HST := Aside0.mk (show (midP wh s.f5 s.f3 i).set i (tickP x ((i : Int) == wh) s.f5).1 = midP wh s.f5 s.f3 (i + 1) by rw [← hx.out]; exact midP_step wh s.f5 s.f3 i ci)
        have HRN := Aside0.mk (show (tickRan wh s.f5 s.f3).take i ++ [(tickP x ((i : Int) == wh) s.f5).2] = (tickRan wh s.f5 s.f3).take (i + 1) by rw [← hx.out]; exact ran_step wh s.f5 s.f3 i ci)
        clear q0 q1 q2 q3 q4
        have hX6 := blk_al HX.out (.cells #[.slice B0 x.f0.length d0, .slice B1 x.f1.length d1, .slice B2 x.f2.length d2, .slice B3 x.f3.length d3, .slice B4 x.f4.length d4] 80)
        have hR6 := blk_al hRr (.cells #[.slice B0 x.f0.length d0, .slice B1 x.f1.length d1, .slice B2 x.f2.length d2, .slice B3 x.f3.length d3, .slice B4 x.f4.length d4] 80)
        have hb6 := below_alloc hbr (.cells #[.slice B0 x.f0.length d0, .slice B1 x.f1.length d1, .slice B2 x.f2.length d2, .slice B3 x.f3.length d3, .slice B4 x.f4.length d4] 80)
        have hs6 : (wr.alloc (.cells #[.slice B0 x.f0.length d0, .slice B1 x.f1.length d1, .slice B2 x.f2.length d2, .slice B3 x.f3.length d3, .slice B4 x.f4.length d4] 80)).heap.size = wr.heap.size + 1 := alsz
        obtain ⟨z0, z1, z2, z3, z4, z5⟩ := bx6 hX6
        go_wp2_with fail
        refine (part_Tick.calls x [.slice B0 x.f0.length d0, .slice B1 x.f1.length d1, .slice B2 x.f2.length d2, .slice B3 x.f3.length d3, .slice B4 x.f4.length d4] (fun k => ok k ∧ k < w.heap.size) ((i : Int) == wh) s.f5 _ (Kd.FK_below HK.out bl1) HPR.out HWH.out).mono ?_; rintro _ w7 ⟨cs7, rfl, hF7, hb7⟩
        have hX7 := blk_below hX6 hb7
        have hR7 := blk_below hR6 hb7
        have hbB := below_step hb6 hb7
        have hs7 := hb7.size
        rw [hs6] at hs7
        have HN7 := Aside0.mk (Kd.N_below (Kd.N_below HN.out bl1) hb7)
        have HFK7 := Aside0.mk (Kd.FK_below (Kd.FK_below (Kd.FK_bound HFK.out) bl1) hb7)
        have hF7 := Kd.FK_mono (ok' := fun k => (ok k ∧ k < w.heap.size) ∨ wr.heap.size + 1 ≤ k) hF7 (fun k hk => hk.elim Or.inl (fun h => Or.inr (by rw [hs6] at h; exact h)))
        have HF7 := Aside0.mk (Kd.FK_bound hF7)
        generalize htp : tickP x ((i : Int) == wh) s.f5 = r at hF7 HF7 HST HRN ⊢
        obtain ⟨C0, k0, C1, k1, C2, k2, C3, k3, C4, k4, rfl, -, -, -, -, -, -, -, -, -, -⟩ := k80_openF hF7
        clear hF7 e0 e1 e2 e3 e4 x0 x1 x2 x3 x4 x5 z0 z1 z2 z3 z4 z5 htp hX6 hR6 hb6 hb7
        have hZ8 := blk_new w7 (.cells #[.slice none 0 0, .slice none 0 0, .slice none 0 0, .slice none 0 0, .slice none 0 0] 80)
        have hX8 := blk_al hX7 (.cells #[.slice none 0 0, .slice none 0 0, .slice none 0 0, .slice none 0 0, .slice none 0 0] 80)
        have hR8 := blk_al hR7 (.cells #[.slice none 0 0, .slice none 0 0, .slice none 0 0, .slice none 0 0, .slice none 0 0] 80)
        have hb8 := below_alloc hbB (.cells #[.slice none 0 0, .slice none 0 0, .slice none 0 0, .slice none 0 0, .slice none 0 0] 80)
        have hs8 : (w7.alloc (.cells #[.slice none 0 0, .slice none 0 0, .slice none 0 0, .slice none 0 0, .slice none 0 0] 80)).heap.size = w7.heap.size + 1 := alsz
        go_wp2_with ((with_reducible refine gate_store (t := 80) (p := 9) (v := .tmp 48) rfl ?_); refine stop_ ?_)
        refine ⟨?_⟩
        refine stB (w0 := w) (base := w.heap.size) (seg := [.slice C0 r.1.f0.length k0, .slice C1 r.1.f1.length k1, .slice C2 r.1.f2.length k2, .slice C3 r.1.f3.length k3, .slice C4 r.1.f4.length k4]) (cs' := [.slice C0 r.1.f0.length k0, .slice C1 r.1.f1.length k1, .slice C2 r.1.f2.length k2, .slice C3 r.1.f3.length k3, .slice C4 r.1.f4.length k4]) hZ8 hb8 (by omega) (h := fun w9 hZ9 hb9 hg9 => ?_)
        have hX9 := blk_grown hX8 hg9 (fun he => by have h2 := Option.some.inj he; (try dsimp only at h2); omega)
        have hR9 := blk_grown hR8 hg9 (fun he => by have h2 := Option.some.inj he; (try dsimp only at h2); omega)
        have hs9 := hg9.size
        rw [hs8] at hs9
        have HN9 := Aside0.mk (Kd.N_grown (Kd.N_below (Kd.N_bound HN7.out) (bl1 (o := (.cells #[.slice none 0 0, .slice none 0 0, .slice none 0 0, .slice none 0 0, .slice none 0 0] 80)))) hg9 (fun k hk he => by have h2 := Option.some.inj he; have := hk.2; omega))
        have HFK9 := Aside0.mk (Kd.FK_grown (Kd.FK_below HFK7.out (bl1 (o := (.cells #[.slice none 0 0, .slice none 0 0, .slice none 0 0, .slice none 0 0, .slice none 0 0] 80)))) hg9 (fun k hk he => by have h2 := Option.some.inj he; have := hk.2; omega))
        have HF9 := Aside0.mk (Kd.FK_grown (Kd.FK_below HF7.out (bl1 (o := (.cells #[.slice none 0 0, .slice none 0 0, .slice none 0 0, .slice none 0 0, .slice none 0 0] 80)))) hg9 (fun k hk he => by have h2 := Option.some.inj he; have := hk.2; omega))
        obtain ⟨x0, x1, x2, x3, x4, x5⟩ := bx6 hX9
        obtain ⟨u0, u1, u2, u3, u4⟩ := bx5 hZ9
        go_wp2_with fail
        have K1 := Kd.FK_mono (ok' := (fun k => ((ok k ∧ k < w.heap.size) ∨ w.heap.size + 2 ≤ k) ∧ some k ≠ u6.ownBlock)) HFK9.out (fun k hk => hk.1)
        have K2 := Kd.FK_mono (ok' := (fun k => ((ok k ∧ k < w.heap.size) ∨ w.heap.size + 2 ≤ k) ∧ some k ≠ u6.ownBlock)) HF9.out (fun k hk => ⟨hk.1.elim Or.inl (fun h => Or.inr (by omega)), fun he => hk.1.elim (fun h => by have := (hown k he.symm).1; omega) (fun h => by have := (hown k he.symm).2; omega)⟩)
        have K3 : i < (⟨s.f0, s.f1, s.f2, (midP wh s.f5 s.f3 i), ls, s.f5⟩ : S66).f3.length := by show i < (midP wh s.f5 s.f3 i).length; rw [hmp]; exact ci
        have K4 : (⟨s.f0, s.f1, s.f2, (midP wh s.f5 s.f3 i), ls, s.f5⟩ : S66).f3.length ≤ 4 := by show (midP wh s.f5 s.f3 i).length ≤ 4; rw [hmp]; exact hl4
        have K5 := kernel_with.calls ⟨s.f0, s.f1, s.f2, (midP wh s.f5 s.f3 i), ls, s.f5⟩ [.int .i64 s.f0, .slice E1 s.f1.length j1, .slice E2 s.f2.length j2, .slice E3 s.f3.length j3, .slice E4 s.f4.length j4, .int .i64 s.f5] i r.1 [.slice C0 r.1.f0.length k0, .slice C1 r.1.f1.length k1, .slice C2 r.1.f2.length k2, .slice C3 r.1.f3.length k3, .slice C4 r.1.f4.length k4] (fun k => ((ok k ∧ k < w.heap.size) ∨ w.heap.size + 2 ≤ k) ∧ some k ≠ u6.ownBlock) w9 K1 K2 K3 K4
        clear K1 K2 K3 K4
        refine K5.mono ?_; rintro _ w10 ⟨cs10, rfl, hF10, hb10⟩
        have hX10 := blk_below hX9 hb10
        have hR10 := blk_below hR9 hb10
        have hbC := below_step hb9 hb10
        have hs10 := hb10.size
        have HN10 := Aside0.mk (Kd.N_below HN9.out hb10)
        have hF10 := Kd.FK_mono (ok' := (fun k => ((ok k ∧ k < w.heap.size) ∨ w.heap.size + 2 ≤ k) ∧ some k ≠ u6.ownBlock)) hF10 (fun k hk => hk.elim (fun h => h) (fun h => ⟨Or.inr (by omega), fun he => by have := (hown k he.symm).2; omega⟩))
        rw [show withP ⟨s.f0, s.f1, s.f2, (midP wh s.f5 s.f3 i), ls, s.f5⟩ i r.1 = ⟨s.f0, s.f1, s.f2, (midP wh s.f5 s.f3 (i + 1)), ls, s.f5⟩ from by unfold withP; dsimp only; rw [HST.out]] at hF10
        have HF10 := Aside0.mk hF10
        obtain ⟨D1, e1, D2, e2, D3, e3, D4, e4, rfl, -, -, -, -, -, -, -, -⟩ := k66_openF hF10
        have hmj := midP_len wh s.f5 s.f3 (i + 1) (by omega)
        dsimp only at HF10 ⊢
        rw [hmj, hll] at HF10 ⊢
        clear hF10 x0 x1 x2 x3 x4 x5 u0 u1 u2 u3 u4
        go_wp2_with ((with_reducible refine gate_store (t := 66) (p := 1) (v := .tmp 54) rfl ?_); refine stop_ ?_)
        refine ⟨?_⟩
        refine stB (w0 := w) (base := w.heap.size) (seg := [.int .i64 s.f0, .slice D1 s.f1.length e1, .slice D2 s.f2.length e2, .slice D3 s.f3.length e3, .slice D4 s.f4.length e4, .int .i64 s.f5]) (cs' := [.int .i64 s.f0, .slice D1 s.f1.length e1, .slice D2 s.f2.length e2, .slice D3 s.f3.length e3, .slice D4 s.f4.length e4, .int .i64 s.f5]) hX10 hbC (Nat.le_refl _) (h := fun w11 hX11 hb11 hg11 => ?_)
        have hR11 := blk_grown hR10 hg11 (fun he => by have h2 := Option.some.inj he; (try dsimp only at h2); omega)
        have hs11 := hg11.size
        have HN11 := Aside0.mk (Kd.N_mono (Kd.N_grown HN10.out hg11 (fun k hk he => by have h2 := Option.some.inj he; have := hk.1; omega)) (fun k hk => hk.1))
        have HF11 := Aside0.mk (Kd.FK_grown HF10.out hg11 (fun k hk he => by have h2 := Option.some.inj he; have := hk.1; omega))
        go_wp2_with ((with_reducible refine gate_builtin (b := .append) (xs := #[.tmp 55, .tmp 57]) rfl ?_); at_builtin; refine stop_ ?_)
        refine ⟨?_⟩
        refine apN row3 (w0 := w) (cs := [.int .i64 r.2]) (p := r.2) (okp := fun _ => False) HN11.out (by intro W' _; rfl) (fun k hk => hk.elim) (fun k hk => by omega) hb11 (by omega) (by rw [List.length_take]; omega) (h := fun v12 w12 hN12 hb12 hg12 hat12 => ?_)
        have hX12 := blk_grown hX11 hg12 (fun he => by have := (hown _ he.symm).1; omega)
        have hR12 := blk_grown hR11 hg12 (fun he => by have := (hown _ he.symm).1; omega)
        have HF12 := Aside0.mk (Kd.FK_mono (ok' := (fun k => ((ok k ∧ k < w.heap.size) ∨ w.heap.size + 2 ≤ k) ∧ some k ≠ v12.ownBlock)) (Kd.FK_grown (Kd.FK_bound HF11.out) hg12 (fun k hk => hk.1.2)) (fun k hk => ⟨hk.1.1, fun he => hat12.elim (fun h => hk.1.2 (he.trans h)) (fun ⟨b, h1, h2⟩ => by have h3 := Option.some.inj (he.trans h1); have := hk.2; omega)⟩))
        rw [HRN.out] at hN12
        have HN12 := Aside0.mk hN12
        clear hN12
        go_wp2
        go_roundg (s.f3.length - i - 1)
        case measure => omega
        case rel => exact ⟨i + 1, _, by omega, by go_num, hX12, HF12.out, hR12, HN12.out, hb12⟩
      · have hie : i = s.f3.length := by omega
        subst hie
        have HNE := Aside0.mk (show Kd.N (Kd.int .i64) 3 wr w.heap.size (fun k => w.heap.size + 2 ≤ k) u6 (tickRan wh s.f5 s.f3) by have := HN.out; rw [List.take_of_length_le (by omega)] at this; exact this)
        obtain ⟨AN, cN, rfl⟩ := Kd.N_slice HNE.out
        have hle := tickRan_len wh s.f5 s.f3
        have hown2 : ∀ k, k = w.heap.size ∨ k = w.heap.size + 1 → some k ≠ (Value.slice AN (tickRan wh s.f5 s.f3).length cN).ownBlock := fun k hk he => by have := (hown k he.symm).1; omega
        have HO2 := Aside0.mk hown2
        have HO := Aside0.mk hown
        clear hown hown2
        go_wp2_with ((with_reducible refine gate_store (t := 3) (p := 63) (v := .tmp 62) rfl ?_); refine stop_ ?_)
        refine ⟨?_⟩
        refine stB (w0 := w) (base := w.heap.size) (seg := [.int .i64 (s.f5 + 1)]) (cs' := [.int .i64 s.f0, .slice E1 s.f1.length j1, .slice E2 s.f2.length j2, .slice E3 s.f3.length j3, .slice E4 s.f4.length j4, .int .i64 (s.f5 + 1)]) HX.out hbr (Nat.le_refl _) (h := fun w11 hX11 hb11 hg11 => ?_)
        have hR11 := blk_grown hRr hg11 (fun he => by have h2 := Option.some.inj he; (try dsimp only at h2); omega)
        have HN11 := Aside0.mk (Kd.N_grown HNE.out hg11 (fun k hk he => by have h2 := Option.some.inj he; omega))
        obtain ⟨z0, z1, z2, z3, z4, z5⟩ := bx6 hX11
        clear x0 x1 x2 x3 x4 x5
        go_wp2_with ((with_reducible refine gate_store (t := 66) (p := 2) (v := .tmp 64) rfl ?_); refine stop_ ?_)
        refine ⟨?_⟩
        refine stB (w0 := w) (base := w.heap.size) (seg := [.int .i64 s.f0, .slice E1 s.f1.length j1, .slice E2 s.f2.length j2, .slice E3 s.f3.length j3, .slice E4 s.f4.length j4, .int .i64 (s.f5 + 1)]) (cs' := [.int .i64 s.f0, .slice E1 s.f1.length j1, .slice E2 s.f2.length j2, .slice E3 s.f3.length j3, .slice E4 s.f4.length j4, .int .i64 (s.f5 + 1)]) hR11 hb11 (by omega) (h := fun w12 hR12 hb12 hg12 => ?_)
        have HN12 := Aside0.mk (Kd.N_grown HN11.out hg12 (fun k hk he => by have h2 := Option.some.inj he; omega))
        go_wp2
        refine bodyPost_ret (results_list (rs := [.cell 2 66, .tmp 3, .tmp 4]) rfl (by simp) (.cell _ 66 _ (0, 0) _ rfl hR12 Tryz.underlying66 rfl (by kernel_rfl) (.tmp (.tmp .nil)))) rfl ?_
        have hk1 : ∀ k, (((ok k ∧ k < w.heap.size) ∨ w.heap.size + 2 ≤ k) ∧ some k ≠ (Value.slice AN (tickRan wh s.f5 s.f3).length cN).ownBlock) → some k ≠ some w.heap.size := fun k hk he => by have h2 := Option.some.inj he; have := hk.1; omega
        have hk2 : ∀ k, (((ok k ∧ k < w.heap.size) ∨ w.heap.size + 2 ≤ k) ∧ some k ≠ (Value.slice AN (tickRan wh s.f5 s.f3).length cN).ownBlock) → some k ≠ some (w.heap.size + 1) := fun k hk he => by have h2 := Option.some.inj he; have := hk.1; omega
        have hk3 : ∀ k, (((ok k ∧ k < w.heap.size) ∨ w.heap.size + 2 ≤ k) ∧ some k ≠ (Value.slice AN (tickRan wh s.f5 s.f3).length cN).ownBlock) → nw ok w k := fun k hk => hk.1.elim (fun h => Or.inl h.1) (fun h => Or.inr (by omega))
        have K1 := Kd.F_mono (ok' := nw ok w) (Kd.F_grown (Kd.F_grown HQ1.out.2 hg11 hk1) hg12 hk2) hk3
        have K2 := Kd.F_mono (ok' := nw ok w) (Kd.F_grown (Kd.F_grown HQ2.out.2 hg11 hk1) hg12 hk2) hk3
        have K3 := Kd.F_mono (ok' := nw ok w) (Kd.F_grown (Kd.F_grown HQ3.out.2 hg11 hk1) hg12 hk2) hk3
        have K4 := Kd.F_mono (ok' := nw ok w) (Kd.F_grown (Kd.F_grown HQ4.out.2 hg11 hk1) hg12 hk2) hk3
        have J3 := HQ3.out.1
        have J4 := HQ4.out.1
        (try dsimp only at K3); (try dsimp only at K4); (try dsimp only at J3); (try dsimp only at J4)
        rw [midP_end] at K3 J3
        have K := k66_mkF w12 (nw ok w) ⟨s.f0, s.f1, s.f2, tickPs wh s.f5 s.f3, ls, s.f5 + 1⟩ HQ1.out.1 K1 HQ2.out.1 K2 J3 K3 J4 K4
        (try dsimp only at K)
        rw [tickPs_len, hll] at K
        rw [HTK.out]
        have KF := Kd.F_mono (ok' := fun k => w.heap.size ≤ k) (Kd.N_F HN12.out) (fun k hk => by omega)
        have KC := (Kd.N_reads' HN12.out).2.1
        rw [hle] at KF KC
        (try dsimp only)
        rw [hle]
        exact ⟨_, _, _, rfl, K, KF, KC, hb12⟩
  · have HLS := Aside0.mk (show tickLs s = s.f4 from if_neg cz)
    go_wp2_with fail
    obtain ⟨ls, hls⟩ : ∃ ls, ls = s.f4 := ⟨_, rfl⟩
    rw [← hls] at HLS
    have hll : ls.length = s.f4.length := by rw [hls]
    have HF3 := Aside0.mk (show Kd.F k135 w2 (fun k => (ok k ∧ k < w.heap.size) ∨ w.heap.size + 2 ≤ k) A4 s.f4.length ls by rw [hls]; exact Kd.F_mono (Kd.F_below G4.out hbA) (fun k hk => Or.inl hk))
    clear hls
    obtain ⟨A4', c4', w3, hX3, hR3, hb3, hc4, hae, hce, hwe⟩ : ∃ A4' c4' w3, w3.heap[w.heap.size]? = some (.cells #[.int .i64 s.f0, .slice A1 s.f1.length c1, .slice A2 s.f2.length c2, .slice A3 s.f3.length c3, .slice A4' s.f4.length c4', .int .i64 s.f5] 66 (0, 0)) ∧ w3.heap[w.heap.size + 1]? = some (.cells #[.int .i64 0, .slice none 0 0, .slice none 0 0, .slice none 0 0, .slice none 0 0, .int .i64 0] 66 (0, 0)) ∧ Below w.heap.size w w3 ∧ s.f4.length ≤ c4' ∧ A4 = A4' ∧ c4 = c4' ∧ w2 = w3 := ⟨A4, c4, w2, hX2, hR2, hbA, l4, rfl, rfl, rfl⟩
    subst hae hce hwe
    have hl3 := (Array.getElem?_eq_some_iff.1 hR3).1
    clear x0 x1 x2 x3 x4 x5 hX2 hR2
    obtain ⟨x0, x1, x2, x3, x4, x5⟩ := bx6 hX3
    refine (table_At.calls s.f0 A1 c1 s.f1 s.f5 w2 (Kd.F_now (Kd.F_below G1.out hb3)) HT1.out hn0 (by omega)).mono ?_; rintro _ w4 ⟨rfl, hb4⟩
    have hX4 := blk_below hX3 hb4
    have hR4 := blk_below hR3 hb4
    have hb5 := below_step hb3 hb4
    have HF4 := Aside0.mk (Kd.F_below HF3.out hb4)
    have HTK := Aside0.mk (show tickK s = (⟨s.f0, s.f1, s.f2, tickPs (atI s.f0 s.f1 s.f5) s.f5 s.f3, ls, s.f5 + 1⟩, tickRan (atI s.f0 s.f1 s.f5) s.f5 s.f3) by unfold tickK; rw [HLS.out])
    generalize atI s.f0 s.f1 s.f5 = wh at HTK ⊢
    clear x0 x1 x2 x3 x4 x5 hX3 hR3 hb3 hb4 HF3 hl3
    obtain ⟨x0, x1, x2, x3, x4, x5⟩ := bx6 hX4
    go_wp2
    have hlP : (midP wh s.f5 s.f3 0).length = s.f3.length := midP_len _ _ _ _ (Nat.zero_le _)
    have hP0 : midP wh s.f5 s.f3 0 = s.f3 := by unfold midP; rw [List.take_zero, List.nil_append, List.drop_zero]
    have HK0 := Aside0.mk (k66_mkF w4 (fun k => (ok k ∧ k < w.heap.size) ∨ w.heap.size + 2 ≤ k) ⟨s.f0, s.f1, s.f2, s.f3, ls, s.f5⟩ l1 (Kd.F_mono (Kd.F_below G1.out hb5) (fun k hk => Or.inl hk)) l2 (Kd.F_mono (Kd.F_below G2.out hb5) (fun k hk => Or.inl hk)) l3 (Kd.F_mono (Kd.F_below G3.out hb5) (fun k hk => Or.inl hk)) (show ls.length ≤ c4 by rw [hll]; exact hc4) (show Kd.F k135 w4 _ A4 ls.length ls by rw [hll]; exact HF4.out))
    rw [show (S66.mk s.f0 s.f1 s.f2 s.f3 ls s.f5).f4.length = s.f4.length from hll] at HK0
    go_loopg [6, 35] s.f3.length (fun k v6 v35 wr => ∃ (i : Nat) (csI : List Value), i + k = s.f3.length ∧ v35 = .int .i64 i ∧ wr.heap[w.heap.size]? = some (.cells csI.toArray 66 (0, 0)) ∧ Kd.FK k66 wr (fun k => ((ok k ∧ k < w.heap.size) ∨ w.heap.size + 2 ≤ k) ∧ some k ≠ v6.ownBlock) ⟨s.f0, s.f1, s.f2, (midP wh s.f5 s.f3 i), ls, s.f5⟩ csI ∧ wr.heap[w.heap.size + 1]? = some (.cells #[.int .i64 0, .slice none 0 0, .slice none 0 0, .slice none 0 0, .slice none 0 0, .int .i64 0] 66 (0, 0)) ∧ Kd.N (Kd.int .i64) 3 wr w.heap.size (fun k => w.heap.size + 2 ≤ k) v6 ((tickRan wh s.f5 s.f3).take i) ∧ Below w.heap.size w wr)
    case atStart =>
      refine ⟨0, _, by omega, by go_num, hX4, Kd.FK_mono (by rw [hP0]; exact HK0.out) (fun k hk => ⟨hk, by simp [Value.ownBlock]⟩), hR4, ?_, hb5⟩
      rw [List.take_zero]; exact Kd.N_nil _ _ _ _ _
    case round =>
      clear x0 x1 x2 x3 x4 x5 hX4 hR4 HF4 HK0 hP0 hlP
      obtain ⟨i, csI, hi, rfl, hX, hFK, hRr, hN, hbr⟩ := hrel
      have HN := Aside0.mk hN
      have HFK := Aside0.mk hFK
      have hlr := (Array.getElem?_eq_some_iff.1 hRr).1
      have hown : ∀ k, u6.ownBlock = some k → w.heap.size + 2 ≤ k ∧ k < wr.heap.size := fun k hk => ⟨hN.1 k hk, Kd.N_lt hN k hk⟩
      have hl35 := tickRan_len wh s.f5 s.f3
      obtain ⟨E1, j1, E2, j2, E3, j3, E4, j4, rfl, y1, q1, y2, q2, y3, q3, y4, q4⟩ := k66_openF hFK
      have HQ1 := Aside0.mk (And.intro y1 q1)
      have HQ2 := Aside0.mk (And.intro y2 q2)
      have HQ3 := Aside0.mk (And.intro y3 q3)
      have HQ4 := Aside0.mk (And.intro y4 q4)
      clear y1 q1 y2 q2 y3 q3 y4 q4
      have hmp := midP_len wh s.f5 s.f3 i (by omega)
      dsimp only at hX hFK HFK
      rw [hmp, hll] at hX HFK
      have HX := Aside0.mk hX
      clear hFK hN hX
      obtain ⟨x0, x1, x2, x3, x4, x5⟩ := bx6 HX.out
      by_cases ci : i < s.f3.length
      · obtain ⟨adP, B0, d0, B1, d1, B2, d2, B3, d3, B4, d4, x, hAd, hx, e0, e1, e2, e3, e4, m0, q0, m1, q1, m2, q2, m3, q3, m4, q4⟩ := el80F (Kd.F_below G3.out hbr) i ci
        subst hAd
        have HK := Aside0.mk (k80_mkF _ _ x m0 q0 m1 q1 m2 q2 m3 q3 m4 q4)
        have HPR := Aside0.mk (show partR x = true by rw [← hx.out]; exact HP.out _ (List.getElem_mem ci))
        have HST := Aside0.mk (show (midP wh s.f5 s.f3 i).set i (tickP x ((i : Int) == wh) s.f5).1 = midP wh s.f5 s.f3 (i + 1) by rw [← hx.out]; exact midP_step wh s.f5 s.f3 i ci)
        have HRN := Aside0.mk (show (tickRan wh s.f5 s.f3).take i ++ [(tickP x ((i : Int) == wh) s.f5).2] = (tickRan wh s.f5 s.f3).take (i + 1) by rw [← hx.out]; exact ran_step wh s.f5 s.f3 i ci)
        clear q0 q1 q2 q3 q4
        have hX6 := blk_al HX.out (.cells #[.slice B0 x.f0.length d0, .slice B1 x.f1.length d1, .slice B2 x.f2.length d2, .slice B3 x.f3.length d3, .slice B4 x.f4.length d4] 80)
        have hR6 := blk_al hRr (.cells #[.slice B0 x.f0.length d0, .slice B1 x.f1.length d1, .slice B2 x.f2.length d2, .slice B3 x.f3.length d3, .slice B4 x.f4.length d4] 80)
        have hb6 := below_alloc hbr (.cells #[.slice B0 x.f0.length d0, .slice B1 x.f1.length d1, .slice B2 x.f2.length d2, .slice B3 x.f3.length d3, .slice B4 x.f4.length d4] 80)
        have hs6 : (wr.alloc (.cells #[.slice B0 x.f0.length d0, .slice B1 x.f1.length d1, .slice B2 x.f2.length d2, .slice B3 x.f3.length d3, .slice B4 x.f4.length d4] 80)).heap.size = wr.heap.size + 1 := alsz
        obtain ⟨z0, z1, z2, z3, z4, z5⟩ := bx6 hX6
        go_wp2_with fail
        refine (part_Tick.calls x [.slice B0 x.f0.length d0, .slice B1 x.f1.length d1, .slice B2 x.f2.length d2, .slice B3 x.f3.length d3, .slice B4 x.f4.length d4] (fun k => ok k ∧ k < w.heap.size) ((i : Int) == wh) s.f5 _ (Kd.FK_below HK.out bl1) HPR.out HWH.out).mono ?_; rintro _ w7 ⟨cs7, rfl, hF7, hb7⟩
        have hX7 := blk_below hX6 hb7
        have hR7 := blk_below hR6 hb7
        have hbB := below_step hb6 hb7
        have hs7 := hb7.size
        rw [hs6] at hs7
        have HN7 := Aside0.mk (Kd.N_below (Kd.N_below HN.out bl1) hb7)
        have HFK7 := Aside0.mk (Kd.FK_below (Kd.FK_below (Kd.FK_bound HFK.out) bl1) hb7)
        have hF7 := Kd.FK_mono (ok' := fun k => (ok k ∧ k < w.heap.size) ∨ wr.heap.size + 1 ≤ k) hF7 (fun k hk => hk.elim Or.inl (fun h => Or.inr (by rw [hs6] at h; exact h)))
        have HF7 := Aside0.mk (Kd.FK_bound hF7)
        generalize htp : tickP x ((i : Int) == wh) s.f5 = r at hF7 HF7 HST HRN ⊢
        obtain ⟨C0, k0, C1, k1, C2, k2, C3, k3, C4, k4, rfl, -, -, -, -, -, -, -, -, -, -⟩ := k80_openF hF7
        clear hF7 e0 e1 e2 e3 e4 x0 x1 x2 x3 x4 x5 z0 z1 z2 z3 z4 z5 htp hX6 hR6 hb6 hb7
        have hZ8 := blk_new w7 (.cells #[.slice none 0 0, .slice none 0 0, .slice none 0 0, .slice none 0 0, .slice none 0 0] 80)
        have hX8 := blk_al hX7 (.cells #[.slice none 0 0, .slice none 0 0, .slice none 0 0, .slice none 0 0, .slice none 0 0] 80)
        have hR8 := blk_al hR7 (.cells #[.slice none 0 0, .slice none 0 0, .slice none 0 0, .slice none 0 0, .slice none 0 0] 80)
        have hb8 := below_alloc hbB (.cells #[.slice none 0 0, .slice none 0 0, .slice none 0 0, .slice none 0 0, .slice none 0 0] 80)
        have hs8 : (w7.alloc (.cells #[.slice none 0 0, .slice none 0 0, .slice none 0 0, .slice none 0 0, .slice none 0 0] 80)).heap.size = w7.heap.size + 1 := alsz
        go_wp2_with ((with_reducible refine gate_store (t := 80) (p := 9) (v := .tmp 48) rfl ?_); refine stop_ ?_)
        refine ⟨?_⟩
        refine stB (w0 := w) (base := w.heap.size) (seg := [.slice C0 r.1.f0.length k0, .slice C1 r.1.f1.length k1, .slice C2 r.1.f2.length k2, .slice C3 r.1.f3.length k3, .slice C4 r.1.f4.length k4]) (cs' := [.slice C0 r.1.f0.length k0, .slice C1 r.1.f1.length k1, .slice C2 r.1.f2.length k2, .slice C3 r.1.f3.length k3, .slice C4 r.1.f4.length k4]) hZ8 hb8 (by omega) (h := fun w9 hZ9 hb9 hg9 => ?_)
        have hX9 := blk_grown hX8 hg9 (fun he => by have h2 := Option.some.inj he; (try dsimp only at h2); omega)
        have hR9 := blk_grown hR8 hg9 (fun he => by have h2 := Option.some.inj he; (try dsimp only at h2); omega)
        have hs9 := hg9.size
        rw [hs8] at hs9
        have HN9 := Aside0.mk (Kd.N_grown (Kd.N_below (Kd.N_bound HN7.out) (bl1 (o := (.cells #[.slice none 0 0, .slice none 0 0, .slice none 0 0, .slice none 0 0, .slice none 0 0] 80)))) hg9 (fun k hk he => by have h2 := Option.some.inj he; have := hk.2; omega))
        have HFK9 := Aside0.mk (Kd.FK_grown (Kd.FK_below HFK7.out (bl1 (o := (.cells #[.slice none 0 0, .slice none 0 0, .slice none 0 0, .slice none 0 0, .slice none 0 0] 80)))) hg9 (fun k hk he => by have h2 := Option.some.inj he; have := hk.2; omega))
        have HF9 := Aside0.mk (Kd.FK_grown (Kd.FK_below HF7.out (bl1 (o := (.cells #[.slice none 0 0, .slice none 0 0, .slice none 0 0, .slice none 0 0, .slice none 0 0] 80)))) hg9 (fun k hk he => by have h2 := Option.some.inj he; have := hk.2; omega))
        obtain ⟨x0, x1, x2, x3, x4, x5⟩ := bx6 hX9
        obtain ⟨u0, u1, u2, u3, u4⟩ := bx5 hZ9
        go_wp2_with fail
        have K1 := Kd.FK_mono (ok' := (fun k => ((ok k ∧ k < w.heap.size) ∨ w.heap.size + 2 ≤ k) ∧ some k ≠ u6.ownBlock)) HFK9.out (fun k hk => hk.1)
        have K2 := Kd.FK_mono (ok' := (fun k => ((ok k ∧ k < w.heap.size) ∨ w.heap.size + 2 ≤ k) ∧ some k ≠ u6.ownBlock)) HF9.out (fun k hk => ⟨hk.1.elim Or.inl (fun h => Or.inr (by omega)), fun he => hk.1.elim (fun h => by have := (hown k he.symm).1; omega) (fun h => by have := (hown k he.symm).2; omega)⟩)
        have K3 : i < (⟨s.f0, s.f1, s.f2, (midP wh s.f5 s.f3 i), ls, s.f5⟩ : S66).f3.length := by show i < (midP wh s.f5 s.f3 i).length; rw [hmp]; exact ci
        have K4 : (⟨s.f0, s.f1, s.f2, (midP wh s.f5 s.f3 i), ls, s.f5⟩ : S66).f3.length ≤ 4 := by show (midP wh s.f5 s.f3 i).length ≤ 4; rw [hmp]; exact hl4
        have K5 := kernel_with.calls ⟨s.f0, s.f1, s.f2, (midP wh s.f5 s.f3 i), ls, s.f5⟩ [.int .i64 s.f0, .slice E1 s.f1.length j1, .slice E2 s.f2.length j2, .slice E3 s.f3.length j3, .slice E4 s.f4.length j4, .int .i64 s.f5] i r.1 [.slice C0 r.1.f0.length k0, .slice C1 r.1.f1.length k1, .slice C2 r.1.f2.length k2, .slice C3 r.1.f3.length k3, .slice C4 r.1.f4.length k4] (fun k => ((ok k ∧ k < w.heap.size) ∨ w.heap.size + 2 ≤ k) ∧ some k ≠ u6.ownBlock) w9 K1 K2 K3 K4
        clear K1 K2 K3 K4
        refine K5.mono ?_; rintro _ w10 ⟨cs10, rfl, hF10, hb10⟩
        have hX10 := blk_below hX9 hb10
        have hR10 := blk_below hR9 hb10
        have hbC := below_step hb9 hb10
        have hs10 := hb10.size
        have HN10 := Aside0.mk (Kd.N_below HN9.out hb10)
        have hF10 := Kd.FK_mono (ok' := (fun k => ((ok k ∧ k < w.heap.size) ∨ w.heap.size + 2 ≤ k) ∧ some k ≠ u6.ownBlock)) hF10 (fun k hk => hk.elim (fun h => h) (fun h => ⟨Or.inr (by omega), fun he => by have := (hown k he.symm).2; omega⟩))
        rw [show withP ⟨s.f0, s.f1, s.f2, (midP wh s.f5 s.f3 i), ls, s.f5⟩ i r.1 = ⟨s.f0, s.f1, s.f2, (midP wh s.f5 s.f3 (i + 1)), ls, s.f5⟩ from by unfold withP; dsimp only; rw [HST.out]] at hF10
        have HF10 := Aside0.mk hF10
        obtain ⟨D1, e1, D2, e2, D3, e3, D4, e4, rfl, -, -, -, -, -, -, -, -⟩ := k66_openF hF10
        have hmj := midP_len wh s.f5 s.f3 (i + 1) (by omega)
        dsimp only at HF10 ⊢
        rw [hmj, hll] at HF10 ⊢
        clear hF10 x0 x1 x2 x3 x4 x5 u0 u1 u2 u3 u4
        go_wp2_with ((with_reducible refine gate_store (t := 66) (p := 1) (v := .tmp 54) rfl ?_); refine stop_ ?_)
        refine ⟨?_⟩
        refine stB (w0 := w) (base := w.heap.size) (seg := [.int .i64 s.f0, .slice D1 s.f1.length e1, .slice D2 s.f2.length e2, .slice D3 s.f3.length e3, .slice D4 s.f4.length e4, .int .i64 s.f5]) (cs' := [.int .i64 s.f0, .slice D1 s.f1.length e1, .slice D2 s.f2.length e2, .slice D3 s.f3.length e3, .slice D4 s.f4.length e4, .int .i64 s.f5]) hX10 hbC (Nat.le_refl _) (h := fun w11 hX11 hb11 hg11 => ?_)
        have hR11 := blk_grown hR10 hg11 (fun he => by have h2 := Option.some.inj he; (try dsimp only at h2); omega)
        have hs11 := hg11.size
        have HN11 := Aside0.mk (Kd.N_mono (Kd.N_grown HN10.out hg11 (fun k hk he => by have h2 := Option.some.inj he; have := hk.1; omega)) (fun k hk => hk.1))
        have HF11 := Aside0.mk (Kd.FK_grown HF10.out hg11 (fun k hk he => by have h2 := Option.some.inj he; have := hk.1; omega))
        go_wp2_with ((with_reducible refine gate_builtin (b := .append) (xs := #[.tmp 55, .tmp 57]) rfl ?_); at_builtin; refine stop_ ?_)
        refine ⟨?_⟩
        refine apN row3 (w0 := w) (cs := [.int .i64 r.2]) (p := r.2) (okp := fun _ => False) HN11.out (by intro W' _; rfl) (fun k hk => hk.elim) (fun k hk => by omega) hb11 (by omega) (by rw [List.length_take]; omega) (h := fun v12 w12 hN12 hb12 hg12 hat12 => ?_)
        have hX12 := blk_grown hX11 hg12 (fun he => by have := (hown _ he.symm).1; omega)
        have hR12 := blk_grown hR11 hg12 (fun he => by have := (hown _ he.symm).1; omega)
        have HF12 := Aside0.mk (Kd.FK_mono (ok' := (fun k => ((ok k ∧ k < w.heap.size) ∨ w.heap.size + 2 ≤ k) ∧ some k ≠ v12.ownBlock)) (Kd.FK_grown (Kd.FK_bound HF11.out) hg12 (fun k hk => hk.1.2)) (fun k hk => ⟨hk.1.1, fun he => hat12.elim (fun h => hk.1.2 (he.trans h)) (fun ⟨b, h1, h2⟩ => by have h3 := Option.some.inj (he.trans h1); have := hk.2; omega)⟩))
        rw [HRN.out] at hN12
        have HN12 := Aside0.mk hN12
        clear hN12
        go_wp2
        go_roundg (s.f3.length - i - 1)
        case measure => omega
        case rel => exact ⟨i + 1, _, by omega, by go_num, hX12, HF12.out, hR12, HN12.out, hb12⟩
      · have hie : i = s.f3.length := by omega
        subst hie
        have HNE := Aside0.mk (show Kd.N (Kd.int .i64) 3 wr w.heap.size (fun k => w.heap.size + 2 ≤ k) u6 (tickRan wh s.f5 s.f3) by have := HN.out; rw [List.take_of_length_le (by omega)] at this; exact this)
        obtain ⟨AN, cN, rfl⟩ := Kd.N_slice HNE.out
        have hle := tickRan_len wh s.f5 s.f3
        have hown2 : ∀ k, k = w.heap.size ∨ k = w.heap.size + 1 → some k ≠ (Value.slice AN (tickRan wh s.f5 s.f3).length cN).ownBlock := fun k hk he => by have := (hown k he.symm).1; omega
        have HO2 := Aside0.mk hown2
        have HO := Aside0.mk hown
        clear hown hown2
        go_wp2_with ((with_reducible refine gate_store (t := 3) (p := 63) (v := .tmp 62) rfl ?_); refine stop_ ?_)
        refine ⟨?_⟩
        refine stB (w0 := w) (base := w.heap.size) (seg := [.int .i64 (s.f5 + 1)]) (cs' := [.int .i64 s.f0, .slice E1 s.f1.length j1, .slice E2 s.f2.length j2, .slice E3 s.f3.length j3, .slice E4 s.f4.length j4, .int .i64 (s.f5 + 1)]) HX.out hbr (Nat.le_refl _) (h := fun w11 hX11 hb11 hg11 => ?_)
        have hR11 := blk_grown hRr hg11 (fun he => by have h2 := Option.some.inj he; (try dsimp only at h2); omega)
        have HN11 := Aside0.mk (Kd.N_grown HNE.out hg11 (fun k hk he => by have h2 := Option.some.inj he; omega))
        obtain ⟨z0, z1, z2, z3, z4, z5⟩ := bx6 hX11
        clear x0 x1 x2 x3 x4 x5
        go_wp2_with ((with_reducible refine gate_store (t := 66) (p := 2) (v := .tmp 64) rfl ?_); refine stop_ ?_)
        refine ⟨?_⟩
        refine stB (w0 := w) (base := w.heap.size) (seg := [.int .i64 s.f0, .slice E1 s.f1.length j1, .slice E2 s.f2.length j2, .slice E3 s.f3.length j3, .slice E4 s.f4.length j4, .int .i64 (s.f5 + 1)]) (cs' := [.int .i64 s.f0, .slice E1 s.f1.length j1, .slice E2 s.f2.length j2, .slice E3 s.f3.length j3, .slice E4 s.f4.length j4, .int .i64 (s.f5 + 1)]) hR11 hb11 (by omega) (h := fun w12 hR12 hb12 hg12 => ?_)
        have HN12 := Aside0.mk (Kd.N_grown HN11.out hg12 (fun k hk he => by have h2 := Option.some.inj he; omega))
        go_wp2
        refine bodyPost_ret (results_list (rs := [.cell 2 66, .tmp 3, .tmp 4]) rfl (by simp) (.cell _ 66 _ (0, 0) _ rfl hR12 Tryz.underlying66 rfl (by kernel_rfl) (.tmp (.tmp .nil)))) rfl ?_
        have hk1 : ∀ k, (((ok k ∧ k < w.heap.size) ∨ w.heap.size + 2 ≤ k) ∧ some k ≠ (Value.slice AN (tickRan wh s.f5 s.f3).length cN).ownBlock) → some k ≠ some w.heap.size := fun k hk he => by have h2 := Option.some.inj he; have := hk.1; omega
        have hk2 : ∀ k, (((ok k ∧ k < w.heap.size) ∨ w.heap.size + 2 ≤ k) ∧ some k ≠ (Value.slice AN (tickRan wh s.f5 s.f3).length cN).ownBlock) → some k ≠ some (w.heap.size + 1) := fun k hk he => by have h2 := Option.some.inj he; have := hk.1; omega
        have hk3 : ∀ k, (((ok k ∧ k < w.heap.size) ∨ w.heap.size + 2 ≤ k) ∧ some k ≠ (Value.slice AN (tickRan wh s.f5 s.f3).length cN).ownBlock) → nw ok w k := fun k hk => hk.1.elim (fun h => Or.inl h.1) (fun h => Or.inr (by omega))
        have K1 := Kd.F_mono (ok' := nw ok w) (Kd.F_grown (Kd.F_grown HQ1.out.2 hg11 hk1) hg12 hk2) hk3
        have K2 := Kd.F_mono (ok' := nw ok w) (Kd.F_grown (Kd.F_grown HQ2.out.2 hg11 hk1) hg12 hk2) hk3
        have K3 := Kd.F_mono (ok' := nw ok w) (Kd.F_grown (Kd.F_grown HQ3.out.2 hg11 hk1) hg12 hk2) hk3
        have K4 := Kd.F_mono (ok' := nw ok w) (Kd.F_grown (Kd.F_grown HQ4.out.2 hg11 hk1) hg12 hk2) hk3
        have J3 := HQ3.out.1
        have J4 := HQ4.out.1
        (try dsimp only at K3); (try dsimp only at K4); (try dsimp only at J3); (try dsimp only at J4)
        rw [midP_end] at K3 J3
        have K := k66_mkF w12 (nw ok w) ⟨s.f0, s.f1, s.f2, tickPs wh s.f5 s.f3, ls, s.f5 + 1⟩ HQ1.out.1 K1 HQ2.out.1 K2 J3 K3 J4 K4
        (try dsimp only at K)
        rw [tickPs_len, hll] at K
        rw [HTK.out]
        have KF := Kd.F_mono (ok' := fun k => w.heap.size ≤ k) (Kd.N_F HN12.out) (fun k hk => by omega)
        have KC := (Kd.N_reads' HN12.out).2.1
        rw [hle] at KF KC
        (try dsimp only)
        rw [hle]
        exact ⟨_, _, _, rfl, K, KF, KC, hb12⟩
end Go.Proofs.YtmngaagojkihbaaGreat.FTop
