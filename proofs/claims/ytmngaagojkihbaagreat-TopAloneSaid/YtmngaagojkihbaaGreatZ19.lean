/- Contracts of functions that the statement TopAlone reaches, and plain lemmas. No condition. -/
import Derived.Test.YtmngaagojkihbaaGreatZ18
namespace Go.Proofs.YtmngaagojkihbaaGreat.FTop
open Go.RowKit Go.Proofs.YtmngaagojkihbaaGreatW.PrintWords Go.Proofs.YtmngaagojkihbaaGreatW.PrintLast Go.Proofs.YtmngaagojkihbaaGreatW.PrintMore
attribute [local go_sem] max2_int min2_int max_two min_two
set_option linter.unusedVariables false
set_option linter.unusedSimpArgs false
set_option maxHeartbeats 8000000
set_option maxRecDepth 100000
def DoP (fn : Nat) (F : S80 → S85 → S46 → Int → S80 × Int) : Prop := ∀ (s : S80) (cs : List Value) (f : S85) (c : S46) (cc : List Value) (now : Int) (ok : Nat → Prop) (w : World), Kd.FK k80 w ok s cs → Kd.FK k46 w ok c cc → partR s = true → supR f = true → whenB now = true →
  Calls Tryz.prog fn #[.agg cs.toArray, vF f, .agg cc.toArray, .int .i64 now] w fun e w' => ∃ cs', e = .returned (.tuple #[.agg cs'.toArray, .int .i64 (F s f c now).2]) ∧ Kd.FK k80 w' (nw ok w) (F s f c now).1 cs' ∧ Below w.heap.size w w'
def doRel (s : S80) (f : S85) (c : S46) (now : Int) : S80 × Int := releaseP s c.f2 c.f3 now
def doAdd (s : S80) (f : S85) (c : S46) (now : Int) : S80 × Int := addAP s f c.f4
def doDrop (s : S80) (f : S85) (c : S46) (now : Int) : S80 × Int := leaveP s c.f2
def doChg (s : S80) (f : S85) (c : S46) (now : Int) : S80 × Int := changeP s f c.f2 c.f4
theorem kinds1.calls : DoP 59 doRel := by
  intro s cs f c cc now ok w h hc hR hf hw
  have hu := Tryz.underlying80
  have hu2 := Tryz.underlying46
  have hu3 := Tryz.underlying44
  have H := Aside0.mk (Kd.FK_bound h)
  obtain ⟨A0, c0, A1, c1, A2, c2, A3, c3, A4, c4, rfl, -, -, -, -, -, -, -, -, -, -⟩ := k80_openF h
  obtain ⟨A7, c7, rfl, l7, g7⟩ := k46_openF hc
  have HT1 := Aside0.mk (Kd.FK_bound (k44_mkF w ok c.f4 l7 g7))
  have HR := Aside0.mk hR
  have HF1 := Aside0.mk hf
  have HW1 := Aside0.mk hw
  clear h hc hR hf hw g7
  have hb := below_alloc (@bl3 w (.cells #[.slice A0 s.f0.length c0, .slice A1 s.f1.length c1, .slice A2 s.f2.length c2, .slice A3 s.f3.length c3, .slice A4 s.f4.length c4] 80) (.cells #[.int .i64 f.f0, .int .i64 f.f1] 85) (.cells #[.int .i64 c.f0, .int .i64 c.f1, .int .i64 c.f2, .int .i64 c.f3, .int .i64 c.f4.f0, .int .i64 c.f4.f1, .int .i64 c.f4.f2, .slice A7 c.f4.f3.length c7] 46)) (.cells #[.slice none 0 0, .slice none 0 0, .slice none 0 0, .slice none 0 0, .slice none 0 0] 80)
  have hz : ((((w.alloc (.cells #[.slice A0 s.f0.length c0, .slice A1 s.f1.length c1, .slice A2 s.f2.length c2, .slice A3 s.f3.length c3, .slice A4 s.f4.length c4] 80)).alloc (.cells #[.int .i64 f.f0, .int .i64 f.f1] 85)).alloc (.cells #[.int .i64 c.f0, .int .i64 c.f1, .int .i64 c.f2, .int .i64 c.f3, .int .i64 c.f4.f0, .int .i64 c.f4.f1, .int .i64 c.f4.f2, .slice A7 c.f4.f3.length c7] 46)).alloc (.cells #[.slice none 0 0, .slice none 0 0, .slice none 0 0, .slice none 0 0, .slice none 0 0] 80)).heap.size = w.heap.size + 4 := by rw [alsz, alsz, alsz, alsz]
  have hX := blk_new (((w.alloc (.cells #[.slice A0 s.f0.length c0, .slice A1 s.f1.length c1, .slice A2 s.f2.length c2, .slice A3 s.f3.length c3, .slice A4 s.f4.length c4] 80)).alloc (.cells #[.int .i64 f.f0, .int .i64 f.f1] 85)).alloc (.cells #[.int .i64 c.f0, .int .i64 c.f1, .int .i64 c.f2, .int .i64 c.f3, .int .i64 c.f4.f0, .int .i64 c.f4.f1, .int .i64 c.f4.f2, .slice A7 c.f4.f3.length c7] 46)) (.cells #[.slice none 0 0, .slice none 0 0, .slice none 0 0, .slice none 0 0, .slice none 0 0] 80)
  rw [show (((w.alloc (.cells #[.slice A0 s.f0.length c0, .slice A1 s.f1.length c1, .slice A2 s.f2.length c2, .slice A3 s.f3.length c3, .slice A4 s.f4.length c4] 80)).alloc (.cells #[.int .i64 f.f0, .int .i64 f.f1] 85)).alloc (.cells #[.int .i64 c.f0, .int .i64 c.f1, .int .i64 c.f2, .int .i64 c.f3, .int .i64 c.f4.f0, .int .i64 c.f4.f1, .int .i64 c.f4.f2, .slice A7 c.f4.f3.length c7] 46)).heap.size = w.heap.size + 3 by rw [alsz, alsz, alsz]] at hX
  go_enter Tryz.func59, Tryz.ntmps59
  go_wp2_with fail
  refine (part_Release.calls s [.slice A0 s.f0.length c0, .slice A1 s.f1.length c1, .slice A2 s.f2.length c2, .slice A3 s.f3.length c3, .slice A4 s.f4.length c4] (fun k => ok k ∧ k < w.heap.size) c.f2 c.f3 now _ (Kd.FK_below H.out hb) HR.out HW1.out).mono ?_; rintro e w2 ⟨cs2, rfl, hF2, hb2⟩
  have hX2 := blk_below hX hb2
  have hbA := below_step hb hb2
  have hF2 := Kd.FK_mono (ok' := fun k => (ok k ∧ k < w.heap.size) ∨ w.heap.size + 4 ≤ k) hF2 (fun k hk => hk.elim Or.inl (fun h => Or.inr (by rw [hz] at h; exact h)))
  generalize hr : doRel s f c now = r
  rw [show releaseP s c.f2 c.f3 now = r from hr] at hF2 ⊢
  have HV := Aside0.mk hr
  have HF2 := Aside0.mk hF2
  obtain ⟨B0, d0, B1, d1, B2, d2, B3, d3, B4, d4, rfl, -, -, -, -, -, -, -, -, -, -⟩ := k80_openF hF2
  clear hF2 hX hb hb2 hr
  go_wp2_with ((with_reducible refine gate_store (t := 80) (p := 8) (v := .tmp 17) rfl ?_); refine stop_ ?_)
  refine ⟨?_⟩
  refine stB (w0 := w) (base := w.heap.size) (seg := [.slice B0 r.1.f0.length d0, .slice B1 r.1.f1.length d1, .slice B2 r.1.f2.length d2, .slice B3 r.1.f3.length d3, .slice B4 r.1.f4.length d4]) (cs' := [.slice B0 r.1.f0.length d0, .slice B1 r.1.f1.length d1, .slice B2 r.1.f2.length d2, .slice B3 r.1.f3.length d3, .slice B4 r.1.f4.length d4]) hX2 hbA (by omega) (h := fun w6 hX6 hb6 hg6 => ?_)
  have HF6 := Aside0.mk (Kd.FK_mono (ok' := nw ok w) (Kd.FK_grown HF2.out hg6 (fun k hk he => by have h2 := Option.some.inj he; (try dsimp only at h2); omega)) (fun k hk => hk.elim (fun h => Or.inl h.1) (fun h => Or.inr (by omega))))
  go_wp2
  refine bodyPost_ret (results_list (rs := [.cell 8 80, .tmp 9]) rfl (by simp) (.cell _ 80 _ (0, 0) _ rfl hX6 Tryz.underlying80 rfl (by kernel_rfl) (.tmp .nil))) rfl ?_
  rw [HV.out]
  exact ⟨_, rfl, HF6.out, hb6⟩
theorem kinds2.calls : DoP 61 doAdd := by
  intro s cs f c cc now ok w h hc hR hf hw
  have hu := Tryz.underlying80
  have hu2 := Tryz.underlying46
  have hu3 := Tryz.underlying44
  have H := Aside0.mk (Kd.FK_bound h)
  obtain ⟨A0, c0, A1, c1, A2, c2, A3, c3, A4, c4, rfl, -, -, -, -, -, -, -, -, -, -⟩ := k80_openF h
  obtain ⟨A7, c7, rfl, l7, g7⟩ := k46_openF hc
  have HT1 := Aside0.mk (Kd.FK_bound (k44_mkF w ok c.f4 l7 g7))
  have HR := Aside0.mk hR
  have HF1 := Aside0.mk hf
  have HW1 := Aside0.mk hw
  clear h hc hR hf hw g7
  have hb := below_alloc (@bl3 w (.cells #[.slice A0 s.f0.length c0, .slice A1 s.f1.length c1, .slice A2 s.f2.length c2, .slice A3 s.f3.length c3, .slice A4 s.f4.length c4] 80) (.cells #[.int .i64 f.f0, .int .i64 f.f1] 85) (.cells #[.int .i64 c.f0, .int .i64 c.f1, .int .i64 c.f2, .int .i64 c.f3, .int .i64 c.f4.f0, .int .i64 c.f4.f1, .int .i64 c.f4.f2, .slice A7 c.f4.f3.length c7] 46)) (.cells #[.slice none 0 0, .slice none 0 0, .slice none 0 0, .slice none 0 0, .slice none 0 0] 80)
  have hz : ((((w.alloc (.cells #[.slice A0 s.f0.length c0, .slice A1 s.f1.length c1, .slice A2 s.f2.length c2, .slice A3 s.f3.length c3, .slice A4 s.f4.length c4] 80)).alloc (.cells #[.int .i64 f.f0, .int .i64 f.f1] 85)).alloc (.cells #[.int .i64 c.f0, .int .i64 c.f1, .int .i64 c.f2, .int .i64 c.f3, .int .i64 c.f4.f0, .int .i64 c.f4.f1, .int .i64 c.f4.f2, .slice A7 c.f4.f3.length c7] 46)).alloc (.cells #[.slice none 0 0, .slice none 0 0, .slice none 0 0, .slice none 0 0, .slice none 0 0] 80)).heap.size = w.heap.size + 4 := by rw [alsz, alsz, alsz, alsz]
  have hX := blk_new (((w.alloc (.cells #[.slice A0 s.f0.length c0, .slice A1 s.f1.length c1, .slice A2 s.f2.length c2, .slice A3 s.f3.length c3, .slice A4 s.f4.length c4] 80)).alloc (.cells #[.int .i64 f.f0, .int .i64 f.f1] 85)).alloc (.cells #[.int .i64 c.f0, .int .i64 c.f1, .int .i64 c.f2, .int .i64 c.f3, .int .i64 c.f4.f0, .int .i64 c.f4.f1, .int .i64 c.f4.f2, .slice A7 c.f4.f3.length c7] 46)) (.cells #[.slice none 0 0, .slice none 0 0, .slice none 0 0, .slice none 0 0, .slice none 0 0] 80)
  rw [show (((w.alloc (.cells #[.slice A0 s.f0.length c0, .slice A1 s.f1.length c1, .slice A2 s.f2.length c2, .slice A3 s.f3.length c3, .slice A4 s.f4.length c4] 80)).alloc (.cells #[.int .i64 f.f0, .int .i64 f.f1] 85)).alloc (.cells #[.int .i64 c.f0, .int .i64 c.f1, .int .i64 c.f2, .int .i64 c.f3, .int .i64 c.f4.f0, .int .i64 c.f4.f1, .int .i64 c.f4.f2, .slice A7 c.f4.f3.length c7] 46)).heap.size = w.heap.size + 3 by rw [alsz, alsz, alsz]] at hX
  go_enter Tryz.func61, Tryz.ntmps61
  go_wp2_with fail
  refine (admit_Add.calls s [.slice A0 s.f0.length c0, .slice A1 s.f1.length c1, .slice A2 s.f2.length c2, .slice A3 s.f3.length c3, .slice A4 s.f4.length c4] f c.f4 [.int .i64 c.f4.f0, .int .i64 c.f4.f1, .int .i64 c.f4.f2, .slice A7 c.f4.f3.length c7] (fun k => ok k ∧ k < w.heap.size) _ (Kd.FK_below H.out hb) (Kd.FK_below HT1.out hb) HR.out HF1.out).mono ?_; rintro e w2 ⟨cs2, rfl, hF2, hb2⟩
  have hX2 := blk_below hX hb2
  have hbA := below_step hb hb2
  have hF2 := Kd.FK_mono (ok' := fun k => (ok k ∧ k < w.heap.size) ∨ w.heap.size + 4 ≤ k) hF2 (fun k hk => hk.elim Or.inl (fun h => Or.inr (by rw [hz] at h; exact h)))
  generalize hr : doAdd s f c now = r
  rw [show addAP s f c.f4 = r from hr] at hF2 ⊢
  have HV := Aside0.mk hr
  have HF2 := Aside0.mk hF2
  obtain ⟨B0, d0, B1, d1, B2, d2, B3, d3, B4, d4, rfl, -, -, -, -, -, -, -, -, -, -⟩ := k80_openF hF2
  clear hF2 hX hb hb2 hr
  go_wp2_with ((with_reducible refine gate_store (t := 80) (p := 8) (v := .tmp 15) rfl ?_); refine stop_ ?_)
  refine ⟨?_⟩
  refine stB (w0 := w) (base := w.heap.size) (seg := [.slice B0 r.1.f0.length d0, .slice B1 r.1.f1.length d1, .slice B2 r.1.f2.length d2, .slice B3 r.1.f3.length d3, .slice B4 r.1.f4.length d4]) (cs' := [.slice B0 r.1.f0.length d0, .slice B1 r.1.f1.length d1, .slice B2 r.1.f2.length d2, .slice B3 r.1.f3.length d3, .slice B4 r.1.f4.length d4]) hX2 hbA (by omega) (h := fun w6 hX6 hb6 hg6 => ?_)
  have HF6 := Aside0.mk (Kd.FK_mono (ok' := nw ok w) (Kd.FK_grown HF2.out hg6 (fun k hk he => by have h2 := Option.some.inj he; (try dsimp only at h2); omega)) (fun k hk => hk.elim (fun h => Or.inl h.1) (fun h => Or.inr (by omega))))
  go_wp2
  refine bodyPost_ret (results_list (rs := [.cell 8 80, .tmp 9]) rfl (by simp) (.cell _ 80 _ (0, 0) _ rfl hX6 Tryz.underlying80 rfl (by kernel_rfl) (.tmp .nil))) rfl ?_
  rw [HV.out]
  exact ⟨_, rfl, HF6.out, hb6⟩
theorem kinds3.calls : DoP 63 doDrop := by
  intro s cs f c cc now ok w h hc hR hf hw
  have hu := Tryz.underlying80
  have hu2 := Tryz.underlying46
  have hu3 := Tryz.underlying44
  have H := Aside0.mk (Kd.FK_bound h)
  obtain ⟨A0, c0, A1, c1, A2, c2, A3, c3, A4, c4, rfl, -, -, -, -, -, -, -, -, -, -⟩ := k80_openF h
  obtain ⟨A7, c7, rfl, l7, g7⟩ := k46_openF hc
  have HT1 := Aside0.mk (Kd.FK_bound (k44_mkF w ok c.f4 l7 g7))
  have HR := Aside0.mk hR
  have HF1 := Aside0.mk hf
  have HW1 := Aside0.mk hw
  clear h hc hR hf hw g7
  have hb := below_alloc (@bl3 w (.cells #[.slice A0 s.f0.length c0, .slice A1 s.f1.length c1, .slice A2 s.f2.length c2, .slice A3 s.f3.length c3, .slice A4 s.f4.length c4] 80) (.cells #[.int .i64 f.f0, .int .i64 f.f1] 85) (.cells #[.int .i64 c.f0, .int .i64 c.f1, .int .i64 c.f2, .int .i64 c.f3, .int .i64 c.f4.f0, .int .i64 c.f4.f1, .int .i64 c.f4.f2, .slice A7 c.f4.f3.length c7] 46)) (.cells #[.slice none 0 0, .slice none 0 0, .slice none 0 0, .slice none 0 0, .slice none 0 0] 80)
  have hz : ((((w.alloc (.cells #[.slice A0 s.f0.length c0, .slice A1 s.f1.length c1, .slice A2 s.f2.length c2, .slice A3 s.f3.length c3, .slice A4 s.f4.length c4] 80)).alloc (.cells #[.int .i64 f.f0, .int .i64 f.f1] 85)).alloc (.cells #[.int .i64 c.f0, .int .i64 c.f1, .int .i64 c.f2, .int .i64 c.f3, .int .i64 c.f4.f0, .int .i64 c.f4.f1, .int .i64 c.f4.f2, .slice A7 c.f4.f3.length c7] 46)).alloc (.cells #[.slice none 0 0, .slice none 0 0, .slice none 0 0, .slice none 0 0, .slice none 0 0] 80)).heap.size = w.heap.size + 4 := by rw [alsz, alsz, alsz, alsz]
  have hX := blk_new (((w.alloc (.cells #[.slice A0 s.f0.length c0, .slice A1 s.f1.length c1, .slice A2 s.f2.length c2, .slice A3 s.f3.length c3, .slice A4 s.f4.length c4] 80)).alloc (.cells #[.int .i64 f.f0, .int .i64 f.f1] 85)).alloc (.cells #[.int .i64 c.f0, .int .i64 c.f1, .int .i64 c.f2, .int .i64 c.f3, .int .i64 c.f4.f0, .int .i64 c.f4.f1, .int .i64 c.f4.f2, .slice A7 c.f4.f3.length c7] 46)) (.cells #[.slice none 0 0, .slice none 0 0, .slice none 0 0, .slice none 0 0, .slice none 0 0] 80)
  rw [show (((w.alloc (.cells #[.slice A0 s.f0.length c0, .slice A1 s.f1.length c1, .slice A2 s.f2.length c2, .slice A3 s.f3.length c3, .slice A4 s.f4.length c4] 80)).alloc (.cells #[.int .i64 f.f0, .int .i64 f.f1] 85)).alloc (.cells #[.int .i64 c.f0, .int .i64 c.f1, .int .i64 c.f2, .int .i64 c.f3, .int .i64 c.f4.f0, .int .i64 c.f4.f1, .int .i64 c.f4.f2, .slice A7 c.f4.f3.length c7] 46)).heap.size = w.heap.size + 3 by rw [alsz, alsz, alsz]] at hX
  go_enter Tryz.func63, Tryz.ntmps63
  go_wp2_with fail
  refine (admit_Drop.calls s [.slice A0 s.f0.length c0, .slice A1 s.f1.length c1, .slice A2 s.f2.length c2, .slice A3 s.f3.length c3, .slice A4 s.f4.length c4] (fun k => ok k ∧ k < w.heap.size) c.f2 _ (Kd.FK_below H.out hb) HR.out).mono ?_; rintro e w2 ⟨cs2, rfl, hF2, hb2⟩
  have hX2 := blk_below hX hb2
  have hbA := below_step hb hb2
  have hF2 := Kd.FK_mono (ok' := fun k => (ok k ∧ k < w.heap.size) ∨ w.heap.size + 4 ≤ k) hF2 (fun k hk => hk.elim Or.inl (fun h => Or.inr (by rw [hz] at h; exact h)))
  generalize hr : doDrop s f c now = r
  rw [show leaveP s c.f2 = r from hr] at hF2 ⊢
  have HV := Aside0.mk hr
  have HF2 := Aside0.mk hF2
  obtain ⟨B0, d0, B1, d1, B2, d2, B3, d3, B4, d4, rfl, -, -, -, -, -, -, -, -, -, -⟩ := k80_openF hF2
  clear hF2 hX hb hb2 hr
  go_wp2_with ((with_reducible refine gate_store (t := 80) (p := 8) (v := .tmp 14) rfl ?_); refine stop_ ?_)
  refine ⟨?_⟩
  refine stB (w0 := w) (base := w.heap.size) (seg := [.slice B0 r.1.f0.length d0, .slice B1 r.1.f1.length d1, .slice B2 r.1.f2.length d2, .slice B3 r.1.f3.length d3, .slice B4 r.1.f4.length d4]) (cs' := [.slice B0 r.1.f0.length d0, .slice B1 r.1.f1.length d1, .slice B2 r.1.f2.length d2, .slice B3 r.1.f3.length d3, .slice B4 r.1.f4.length d4]) hX2 hbA (by omega) (h := fun w6 hX6 hb6 hg6 => ?_)
  have HF6 := Aside0.mk (Kd.FK_mono (ok' := nw ok w) (Kd.FK_grown HF2.out hg6 (fun k hk he => by have h2 := Option.some.inj he; (try dsimp only at h2); omega)) (fun k hk => hk.elim (fun h => Or.inl h.1) (fun h => Or.inr (by omega))))
  go_wp2
  refine bodyPost_ret (results_list (rs := [.cell 8 80, .tmp 9]) rfl (by simp) (.cell _ 80 _ (0, 0) _ rfl hX6 Tryz.underlying80 rfl (by kernel_rfl) (.tmp .nil))) rfl ?_
  rw [HV.out]
  exact ⟨_, rfl, HF6.out, hb6⟩
theorem kinds4.calls : DoP 65 doChg := by
  intro s cs f c cc now ok w h hc hR hf hw
  have hu := Tryz.underlying80
  have hu2 := Tryz.underlying46
  have hu3 := Tryz.underlying44
  have H := Aside0.mk (Kd.FK_bound h)
  obtain ⟨A0, c0, A1, c1, A2, c2, A3, c3, A4, c4, rfl, -, -, -, -, -, -, -, -, -, -⟩ := k80_openF h
  obtain ⟨A7, c7, rfl, l7, g7⟩ := k46_openF hc
  have HT1 := Aside0.mk (Kd.FK_bound (k44_mkF w ok c.f4 l7 g7))
  have HR := Aside0.mk hR
  have HF1 := Aside0.mk hf
  have HW1 := Aside0.mk hw
  clear h hc hR hf hw g7
  have hb := below_alloc (@bl3 w (.cells #[.slice A0 s.f0.length c0, .slice A1 s.f1.length c1, .slice A2 s.f2.length c2, .slice A3 s.f3.length c3, .slice A4 s.f4.length c4] 80) (.cells #[.int .i64 f.f0, .int .i64 f.f1] 85) (.cells #[.int .i64 c.f0, .int .i64 c.f1, .int .i64 c.f2, .int .i64 c.f3, .int .i64 c.f4.f0, .int .i64 c.f4.f1, .int .i64 c.f4.f2, .slice A7 c.f4.f3.length c7] 46)) (.cells #[.slice none 0 0, .slice none 0 0, .slice none 0 0, .slice none 0 0, .slice none 0 0] 80)
  have hz : ((((w.alloc (.cells #[.slice A0 s.f0.length c0, .slice A1 s.f1.length c1, .slice A2 s.f2.length c2, .slice A3 s.f3.length c3, .slice A4 s.f4.length c4] 80)).alloc (.cells #[.int .i64 f.f0, .int .i64 f.f1] 85)).alloc (.cells #[.int .i64 c.f0, .int .i64 c.f1, .int .i64 c.f2, .int .i64 c.f3, .int .i64 c.f4.f0, .int .i64 c.f4.f1, .int .i64 c.f4.f2, .slice A7 c.f4.f3.length c7] 46)).alloc (.cells #[.slice none 0 0, .slice none 0 0, .slice none 0 0, .slice none 0 0, .slice none 0 0] 80)).heap.size = w.heap.size + 4 := by rw [alsz, alsz, alsz, alsz]
  have hX := blk_new (((w.alloc (.cells #[.slice A0 s.f0.length c0, .slice A1 s.f1.length c1, .slice A2 s.f2.length c2, .slice A3 s.f3.length c3, .slice A4 s.f4.length c4] 80)).alloc (.cells #[.int .i64 f.f0, .int .i64 f.f1] 85)).alloc (.cells #[.int .i64 c.f0, .int .i64 c.f1, .int .i64 c.f2, .int .i64 c.f3, .int .i64 c.f4.f0, .int .i64 c.f4.f1, .int .i64 c.f4.f2, .slice A7 c.f4.f3.length c7] 46)) (.cells #[.slice none 0 0, .slice none 0 0, .slice none 0 0, .slice none 0 0, .slice none 0 0] 80)
  rw [show (((w.alloc (.cells #[.slice A0 s.f0.length c0, .slice A1 s.f1.length c1, .slice A2 s.f2.length c2, .slice A3 s.f3.length c3, .slice A4 s.f4.length c4] 80)).alloc (.cells #[.int .i64 f.f0, .int .i64 f.f1] 85)).alloc (.cells #[.int .i64 c.f0, .int .i64 c.f1, .int .i64 c.f2, .int .i64 c.f3, .int .i64 c.f4.f0, .int .i64 c.f4.f1, .int .i64 c.f4.f2, .slice A7 c.f4.f3.length c7] 46)).heap.size = w.heap.size + 3 by rw [alsz, alsz, alsz]] at hX
  go_enter Tryz.func65, Tryz.ntmps65
  go_wp2_with fail
  refine (admit_Change.calls s [.slice A0 s.f0.length c0, .slice A1 s.f1.length c1, .slice A2 s.f2.length c2, .slice A3 s.f3.length c3, .slice A4 s.f4.length c4] f c.f2 c.f4 [.int .i64 c.f4.f0, .int .i64 c.f4.f1, .int .i64 c.f4.f2, .slice A7 c.f4.f3.length c7] (fun k => ok k ∧ k < w.heap.size) _ (Kd.FK_below H.out hb) (Kd.FK_below HT1.out hb) HR.out HF1.out).mono ?_; rintro e w2 ⟨cs2, rfl, hF2, hb2⟩
  have hX2 := blk_below hX hb2
  have hbA := below_step hb hb2
  have hF2 := Kd.FK_mono (ok' := fun k => (ok k ∧ k < w.heap.size) ∨ w.heap.size + 4 ≤ k) hF2 (fun k hk => hk.elim Or.inl (fun h => Or.inr (by rw [hz] at h; exact h)))
  generalize hr : doChg s f c now = r
  rw [show changeP s f c.f2 c.f4 = r from hr] at hF2 ⊢
  have HV := Aside0.mk hr
  have HF2 := Aside0.mk hF2
  obtain ⟨B0, d0, B1, d1, B2, d2, B3, d3, B4, d4, rfl, -, -, -, -, -, -, -, -, -, -⟩ := k80_openF hF2
  clear hF2 hX hb hb2 hr
  go_wp2_with ((with_reducible refine gate_store (t := 80) (p := 8) (v := .tmp 17) rfl ?_); refine stop_ ?_)
  refine ⟨?_⟩
  refine stB (w0 := w) (base := w.heap.size) (seg := [.slice B0 r.1.f0.length d0, .slice B1 r.1.f1.length d1, .slice B2 r.1.f2.length d2, .slice B3 r.1.f3.length d3, .slice B4 r.1.f4.length d4]) (cs' := [.slice B0 r.1.f0.length d0, .slice B1 r.1.f1.length d1, .slice B2 r.1.f2.length d2, .slice B3 r.1.f3.length d3, .slice B4 r.1.f4.length d4]) hX2 hbA (by omega) (h := fun w6 hX6 hb6 hg6 => ?_)
  have HF6 := Aside0.mk (Kd.FK_mono (ok' := nw ok w) (Kd.FK_grown HF2.out hg6 (fun k hk he => by have h2 := Option.some.inj he; (try dsimp only at h2); omega)) (fun k hk => hk.elim (fun h => Or.inl h.1) (fun h => Or.inr (by omega))))
  go_wp2
  refine bodyPost_ret (results_list (rs := [.cell 8 80, .tmp 9]) rfl (by simp) (.cell _ 80 _ (0, 0) _ rfl hX6 Tryz.underlying80 rfl (by kernel_rfl) (.tmp .nil))) rfl ?_
  rw [HV.out]
  exact ⟨_, rfl, HF6.out, hb6⟩
def kernel_on1.T1 : Bool × List (List Nat × List Nat) := (true, [([], []), ([], []), ([1], [1]), ([], []), ([3], [3]), ([2, 4], [2, 4]), ([5], [5]), ([], []), ([7], [7]), ([], []), ([9], [9]), ([8, 10], [8, 10]), ([11], [11]), ([], []), ([], []), ([14], [14]), ([0, 6, 12, 13, 15], [0, 6, 12, 13, 15]), ([16], [16]), ([17], [17]), ([17], [17]), ([], []), ([20, 18, 16, 0, 1, 2, 3, 4, 5, 6, 7, 8, 9, 10, 11, 12, 13, 14, 15, 16, 17, 18, 20], [18, 20]), ([19, 21, 0, 1, 2, 3, 4, 5, 6, 7, 8, 9, 10, 11, 12, 13, 14, 15, 16, 17, 18, 19, 20, 21], [19])])
def kernel_on1.B1 : List Nat := [0, 0, 2, 0, 8, 30, 62, 0, 128, 0, 512, 1920, 3968, 0, 0, 16384, 65535, 131071, 262143, 262143, 0, 1572863, 4194303]
theorem kernel_on1.tab1 : rtab .any (opsOf Tryz.f98 1) = kernel_on1.T1 := by kernel_rfl
theorem kernel_on1.bits1 : waitsOk kernel_on1.T1.2 kernel_on1.B1 = true := by kernel_rfl
def onS (G : S80 → S85 → S46 → Int → S80 × Int) (s : S66) (c : S46) : S66 × Int × Int := (withP s c.f0.toNat (G (s.f3.getD c.f0.toNat z80) (s.f2.getD c.f0.toNat z85) c s.f5).1, 0, (G (s.f3.getD c.f0.toNat z80) (s.f2.getD c.f0.toNat z85) c s.f5).2)
set_option maxHeartbeats 20000000
theorem on1.calls (fn : Nat) (G : S80 → S85 → S46 → Int → S80 × Int) (hG : DoP fn G) (hen : ∀ args w, (callFunc fn args).run Tryz.prog w = .ok (.enter fn args) w) (g : Nat) (s : S66) (cs : List Value) (c : S46) (cc : List Value) (ok : Nat → Prop) (w : World)
    (hB : w.heap[g]? = some (.cells #[.func (.func fn) #[] #[]] 141 (0, 0))) (h : Kd.FK k66 w ok s cs) (hc : Kd.FK k46 w ok c cc) (hR : kerR s = true) (h0 : 0 ≤ c.f0) (h1 : c.f0 < s.f3.length) :
    Calls Tryz.prog 98 #[.agg cs.toArray, .agg cc.toArray, .pointer (some ⟨g, 0, none⟩)] w fun e w' => ∃ cs', e = .returned (.tuple #[.agg cs'.toArray, .int .i64 (onS G s c).2.1, .int .i64 (onS G s c).2.2]) ∧ Kd.FK k66 w' (nw ok w) (onS G s c).1 cs' ∧ Below w.heap.size w w' := by
  have hu := Tryz.underlying66
  have hu2 := Tryz.underlying46
  have hu3 := Tryz.underlying80
  have hu4 := Tryz.underlying85
  have H := Aside0.mk (Kd.FK_bound h)
  obtain ⟨A1, c1, A2, c2, A3, c3, A4, c4, rfl, l1, -, l2, g2, l3, g3, l4, -⟩ := k66_openF (Kd.FK_bound h)
  obtain ⟨p, kd, i, v, t⟩ := c
  dsimp only at h0 h1
  obtain ⟨n, rfl⟩ : ∃ n : Nat, p = n := ⟨p.toNat, by omega⟩
  have hn : n < s.f3.length := by omega
  obtain ⟨A7, c7, rfl, l7, -⟩ := k46_openF (Kd.FK_bound hc)
  have HC := Aside0.mk (Kd.FK_bound hc)
  obtain ⟨hp, ht, hfl, hl4, hpo, hnn, hsf⟩ := kerR_iff.1 hR
  have hn2 : n < s.f2.length := by omega
  obtain ⟨adP, B0, d0, B1, d1, B2, d2, B3, d3, B4, d4, x, rfl, hx, e0, e1, e2, e3, e4, m0, q0, m1, q1, m2, q2, m3, q3, m4, q4⟩ := el80F g3 n hn
  obtain ⟨adF, f, rfl, hfe, f0, f1⟩ := el85 (Kd.F_now g2) n hn2
  have HX := Aside0.mk (k80_mkF _ _ x m0 q0 m1 q1 m2 q2 m3 q3 m4 q4)
  have HPR := Aside0.mk (show partR x = true by rw [← hx.out]; exact hp _ (List.getElem_mem hn))
  have HF1 := Aside0.mk (show supR f = true by rw [← hfe.out]; exact hsf _ (List.getElem_mem hn2))
  have HWH := Aside0.mk (show whenB s.f5 = true by simp [whenB]; omega)
  have HL4 := Aside0.mk hl4
  have HV := Aside0.mk (show onS G s ⟨n, kd, i, v, t⟩ = (withP s n (G x f ⟨n, kd, i, v, t⟩ s.f5).1, 0, (G x f ⟨n, kd, i, v, t⟩ s.f5).2) by
    unfold onS
    rw [show (S46.mk n kd i v t).f0.toNat = n from Int.toNat_natCast n, List.getD_eq_getElem?_getD, List.getElem?_eq_getElem hn, Option.getD_some, hx.out, List.getD_eq_getElem?_getD, List.getElem?_eq_getElem hn2, Option.getD_some, hfe.out])
  have hcap := bx1 hB
  have hgl := (Array.getElem?_eq_some_iff.1 hB).1
  clear h hc hR hp ht hfl hpo hnn hsf g2 g3 q0 q1 q2 q3 q4
  have hHG := Aside0.mk hG
  clear hG
  generalize hr : G x f ⟨n, kd, i, v, t⟩ s.f5 = r at HV
  have HRR := Aside0.mk hr
  clear hr
  have hb := @bl3 w (.cells #[.int .i64 s.f0, .slice A1 s.f1.length c1, .slice (some adF) s.f2.length c2, .slice (some adP) s.f3.length c3, .slice A4 s.f4.length c4, .int .i64 s.f5] 66) (.cells #[.int .i64 n, .int .i64 kd, .int .i64 i, .int .i64 v, .int .i64 t.f0, .int .i64 t.f1, .int .i64 t.f2, .slice A7 t.f3.length c7] 46) (.cells #[.int .i64 0, .slice none 0 0, .slice none 0 0, .slice none 0 0, .slice none 0 0, .int .i64 0] 66)
  have hz : (((w.alloc (.cells #[.int .i64 s.f0, .slice A1 s.f1.length c1, .slice (some adF) s.f2.length c2, .slice (some adP) s.f3.length c3, .slice A4 s.f4.length c4, .int .i64 s.f5] 66)).alloc (.cells #[.int .i64 n, .int .i64 kd, .int .i64 i, .int .i64 v, .int .i64 t.f0, .int .i64 t.f1, .int .i64 t.f2, .slice A7 t.f3.length c7] 46)).alloc (.cells #[.int .i64 0, .slice none 0 0, .slice none 0 0, .slice none 0 0, .slice none 0 0, .int .i64 0] 66)).heap.size = w.heap.size + 3 := by rw [alsz, alsz, alsz]
  have hX := blk_al (blk_al (blk_new w (.cells #[.int .i64 s.f0, .slice A1 s.f1.length c1, .slice (some adF) s.f2.length c2, .slice (some adP) s.f3.length c3, .slice A4 s.f4.length c4, .int .i64 s.f5] 66)) (.cells #[.int .i64 n, .int .i64 kd, .int .i64 i, .int .i64 v, .int .i64 t.f0, .int .i64 t.f1, .int .i64 t.f2, .slice A7 t.f3.length c7] 46)) (.cells #[.int .i64 0, .slice none 0 0, .slice none 0 0, .slice none 0 0, .slice none 0 0, .int .i64 0] 66)
  have hC := blk_al (blk_new (w.alloc (.cells #[.int .i64 s.f0, .slice A1 s.f1.length c1, .slice (some adF) s.f2.length c2, .slice (some adP) s.f3.length c3, .slice A4 s.f4.length c4, .int .i64 s.f5] 66)) (.cells #[.int .i64 n, .int .i64 kd, .int .i64 i, .int .i64 v, .int .i64 t.f0, .int .i64 t.f1, .int .i64 t.f2, .slice A7 t.f3.length c7] 46)) (.cells #[.int .i64 0, .slice none 0 0, .slice none 0 0, .slice none 0 0, .slice none 0 0, .int .i64 0] 66)
  have hRb := blk_new ((w.alloc (.cells #[.int .i64 s.f0, .slice A1 s.f1.length c1, .slice (some adF) s.f2.length c2, .slice (some adP) s.f3.length c3, .slice A4 s.f4.length c4, .int .i64 s.f5] 66)).alloc (.cells #[.int .i64 n, .int .i64 kd, .int .i64 i, .int .i64 v, .int .i64 t.f0, .int .i64 t.f1, .int .i64 t.f2, .slice A7 t.f3.length c7] 46)) (.cells #[.int .i64 0, .slice none 0 0, .slice none 0 0, .slice none 0 0, .slice none 0 0, .int .i64 0] 66)
  rw [show (w.alloc (.cells #[.int .i64 s.f0, .slice A1 s.f1.length c1, .slice (some adF) s.f2.length c2, .slice (some adP) s.f3.length c3, .slice A4 s.f4.length c4, .int .i64 s.f5] 66)).heap.size = w.heap.size + 1 from alsz] at hC
  rw [show ((w.alloc (.cells #[.int .i64 s.f0, .slice A1 s.f1.length c1, .slice (some adF) s.f2.length c2, .slice (some adP) s.f3.length c3, .slice A4 s.f4.length c4, .int .i64 s.f5] 66)).alloc (.cells #[.int .i64 n, .int .i64 kd, .int .i64 i, .int .i64 v, .int .i64 t.f0, .int .i64 t.f1, .int .i64 t.f2, .slice A7 t.f3.length c7] 46)).heap.size = w.heap.size + 2 by rw [alsz, alsz]] at hRb
  go_enter Tryz.func98, Tryz.ntmps98
  go_wp2_with fail
  generalize (((w.alloc (.cells #[.int .i64 s.f0, .slice A1 s.f1.length c1, .slice (some adF) s.f2.length c2, .slice (some adP) s.f3.length c3, .slice A4 s.f4.length c4, .int .i64 s.f5] 66)).alloc (.cells #[.int .i64 n, .int .i64 kd, .int .i64 i, .int .i64 v, .int .i64 t.f0, .int .i64 t.f1, .int .i64 t.f2, .slice A7 t.f3.length c7] 46)).alloc (.cells #[.int .i64 0, .slice none 0 0, .slice none 0 0, .slice none 0 0, .slice none 0 0, .int .i64 0] 66)) = wA at hb hz hX hC hRb ⊢
  refine st_ 23 (fun w' => w'.cell? (⟨g, 0, none⟩) = some (.func (.func fn) #[] #[]) ∧ w'.cell? (⟨w.heap.size, 3, none⟩) = some (.slice (some adP) s.f3.length c3) ∧ w'.cell? (⟨w.heap.size, 2, none⟩) = some (.slice (some adF) s.f2.length c2) ∧ w'.cell? (⟨w.heap.size, 5, none⟩) = some (.int .i64 s.f5) ∧ w'.cell? (⟨w.heap.size + 1, 0, none⟩) = some (.int .i64 n) ∧ w'.cell? (⟨w.heap.size + 1, 1, none⟩) = some (.int .i64 kd) ∧ w'.cell? (⟨w.heap.size + 1, 2, none⟩) = some (.int .i64 i) ∧ w'.cell? (⟨w.heap.size + 1, 3, none⟩) = some (.int .i64 v) ∧ w'.cell? (⟨w.heap.size + 1, 4, none⟩) = some (.int .i64 t.f0) ∧ w'.cell? (⟨w.heap.size + 1, 5, none⟩) = some (.int .i64 t.f1) ∧ w'.cell? (⟨w.heap.size + 1, 6, none⟩) = some (.int .i64 t.f2) ∧ w'.cell? (⟨w.heap.size + 1, 7, none⟩) = some (.slice A7 t.f3.length c7) ∧ w'.cell? (adP.add (n * 5)) = some (.slice B0 x.f0.length d0) ∧ w'.cell? (⟨(adP.add (n * 5)).block, (adP.add (n * 5)).off + 1, none⟩) = some (.slice B1 x.f1.length d1) ∧ w'.cell? (⟨(adP.add (n * 5)).block, (adP.add (n * 5)).off + 2, none⟩) = some (.slice B2 x.f2.length d2) ∧ w'.cell? (⟨(adP.add (n * 5)).block, (adP.add (n * 5)).off + 3, none⟩) = some (.slice B3 x.f3.length d3) ∧ w'.cell? (⟨(adP.add (n * 5)).block, (adP.add (n * 5)).off + 4, none⟩) = some (.slice B4 x.f4.length d4) ∧ w'.cell? (adF.add (n * 2)) = some (.int .i64 f.f0) ∧ w'.cell? (⟨(adF.add (n * 2)).block, (adF.add (n * 2)).off + 1, none⟩) = some (.int .i64 f.f1) ∧ Below w.heap.size w w' ∧ w'.heap[w.heap.size]? = some (.cells #[.int .i64 s.f0, .slice A1 s.f1.length c1, .slice (some adF) s.f2.length c2, .slice (some adP) s.f3.length c3, .slice A4 s.f4.length c4, .int .i64 s.f5] 66 (0, 0)) ∧ w'.heap[w.heap.size + 1]? = some (.cells #[.int .i64 n, .int .i64 kd, .int .i64 i, .int .i64 v, .int .i64 t.f0, .int .i64 t.f1, .int .i64 t.f2, .slice A7 t.f3.length c7] 46 (0, 0)) ∧ w'.heap[w.heap.size + 2]? = some (.cells #[.int .i64 0, .slice none 0 0, .slice none 0 0, .slice none 0 0, .slice none 0 0, .int .i64 0] 66 (0, 0))) [21] kernel_on1.tab1 kernel_on1.bits1 ⟨be_cell (below_drew1 hb) hcap, (blk_cell hX 3).trans rfl, (blk_cell hX 2).trans rfl, (blk_cell hX 5).trans rfl, (blk_cell hC 0).trans rfl, (blk_cell hC 1).trans rfl, (blk_cell hC 2).trans rfl, (blk_cell hC 3).trans rfl, (blk_cell hC 4).trans rfl, (blk_cell hC 5).trans rfl, (blk_cell hC 6).trans rfl, (blk_cell hC 7).trans rfl, be_cell (below_drew1 hb) e0, be_cell (below_drew1 hb) e1, be_cell (below_drew1 hb) e2, be_cell (below_drew1 hb) e3, be_cell (below_drew1 hb) e4, be_cell (below_drew1 hb) f0, be_cell (below_drew1 hb) f1, below_drew1 hb, hX, hC, hRb⟩ (h := fun HT HW hHeld => ?_)
  repeat (first | refine pn_ HT (h := ?_) | refine tn_ HT HW hHeld (h := ?_) | refine zn_ HT (h := ?_))
  refine join_ (σ := Nat × List Value) 2 #[true, true, true, true, true, true, true, true, true, true, true, true, true, true, true, true, true, true, true, true, true, false, false] (fun q => [(27, .tuple #[.agg q.2.toArray, .int .i64 r.2]), (10, .tuple #[.agg q.2.toArray, .int .i64 r.2]), (28, .agg q.2.toArray), (29, .int .i64 r.2), (8, .pointer (some ⟨q.1, 0, none⟩))])
    (fun q w' => Below w.heap.size w w' ∧ Kd.FK k80 w' (fun k => ((ok k ∧ k < w.heap.size) ∨ w.heap.size + 3 ≤ k) ∧ k ≠ q.1) r.1 q.2 ∧ w.heap.size + 3 ≤ q.1 ∧ w'.heap[q.1]? = some (.cells #[.slice none 0 0, .slice none 0 0, .slice none 0 0, .slice none 0 0, .slice none 0 0] 80 (0, 0)) ∧ w'.heap[w.heap.size]? = some (.cells #[.int .i64 s.f0, .slice A1 s.f1.length c1, .slice (some adF) s.f2.length c2, .slice (some adP) s.f3.length c3, .slice A4 s.f4.length c4, .int .i64 s.f5] 66 (0, 0)) ∧ w'.heap[w.heap.size + 1]? = some (.cells #[.int .i64 n, .int .i64 kd, .int .i64 i, .int .i64 v, .int .i64 t.f0, .int .i64 t.f1, .int .i64 t.f2, .slice A7 t.f3.length c7] 46 (0, 0)) ∧ w'.heap[w.heap.size + 2]? = some (.cells #[.int .i64 0, .slice none 0 0, .slice none 0 0, .slice none 0 0, .slice none 0 0, .int .i64 0] 66 (0, 0))) (fun q w' hF => ?_) (fun HJN => ?_)
  rotate_left
  · refine tw_ 16 20 HT (h1 := fun K hK => ?_) (h2 := fun K hK => ?_)
    · refine cn_ (Calls.mono (hHG.out x [.slice B0 x.f0.length d0, .slice B1 x.f1.length d1, .slice B2 x.f2.length d2, .slice B3 x.f3.length d3, .slice B4 x.f4.length d4] f ⟨n, kd, i, v, t⟩ [.int .i64 (n : Int), .int .i64 kd, .int .i64 i, .int .i64 v, .int .i64 t.f0, .int .i64 t.f1, .int .i64 t.f2, .slice A7 t.f3.length c7] s.f5 (fun k => ok k ∧ k < w.heap.size) _ (Kd.FK_below HX.out (hHeld.2.2.2.2.2.2.2.2.2.2.2.2.2.2.2.2.2.2.2.1)) (Kd.FK_below HC.out (hHeld.2.2.2.2.2.2.2.2.2.2.2.2.2.2.2.2.2.2.2.1)) HPR.out HF1.out HWH.out) (fun e w' ⟨cs2, he, h⟩ => ⟨_, he, cs2, by rw [HRR.out], by rw [HRR.out] at h; exact h⟩)) (R := (fun v w' => ∃ cs2, v = .tuple #[.agg cs2.toArray, .int .i64 r.2] ∧ Kd.FK k80 w' (nw (fun k => ok k ∧ k < w.heap.size) wA.drew) r.1 cs2 ∧ Below wA.drew.heap.size wA.drew w')) (h := fun v3' w3 hv3 => ?_)
      obtain ⟨cs2, rfl, hF2, hb3⟩ := hv3
      have hz3 := hb3.size
      rw [show wA.drew.heap.size = w.heap.size + 3 from hz] at hz3
      refine hK.out _ _ ⟨be_cell hb3 (hHeld.1), be_cell hb3 (hHeld.2.1), be_cell hb3 (hHeld.2.2.1), be_cell hb3 (hHeld.2.2.2.1), be_cell hb3 (hHeld.2.2.2.2.1), be_cell hb3 (hHeld.2.2.2.2.2.1), be_cell hb3 (hHeld.2.2.2.2.2.2.1), be_cell hb3 (hHeld.2.2.2.2.2.2.2.1), be_cell hb3 (hHeld.2.2.2.2.2.2.2.2.1), be_cell hb3 (hHeld.2.2.2.2.2.2.2.2.2.1), be_cell hb3 (hHeld.2.2.2.2.2.2.2.2.2.2.1), be_cell hb3 (hHeld.2.2.2.2.2.2.2.2.2.2.2.1), be_cell hb3 (hHeld.2.2.2.2.2.2.2.2.2.2.2.2.1), be_cell hb3 (hHeld.2.2.2.2.2.2.2.2.2.2.2.2.2.1), be_cell hb3 (hHeld.2.2.2.2.2.2.2.2.2.2.2.2.2.2.1), be_cell hb3 (hHeld.2.2.2.2.2.2.2.2.2.2.2.2.2.2.2.1), be_cell hb3 (hHeld.2.2.2.2.2.2.2.2.2.2.2.2.2.2.2.2.1), be_cell hb3 (hHeld.2.2.2.2.2.2.2.2.2.2.2.2.2.2.2.2.2.1), be_cell hb3 (hHeld.2.2.2.2.2.2.2.2.2.2.2.2.2.2.2.2.2.2.1), below_step (hHeld.2.2.2.2.2.2.2.2.2.2.2.2.2.2.2.2.2.2.2.1) hb3, blk_below (hHeld.2.2.2.2.2.2.2.2.2.2.2.2.2.2.2.2.2.2.2.2.1) hb3, blk_below (hHeld.2.2.2.2.2.2.2.2.2.2.2.2.2.2.2.2.2.2.2.2.2.1) hb3, blk_below (hHeld.2.2.2.2.2.2.2.2.2.2.2.2.2.2.2.2.2.2.2.2.2.2) hb3⟩ (fun hHeld => ?_)
      refine nm_ (h := ?_)
      repeat (first | refine pn_ HT (h := ?_) | refine tn_ HT HW hHeld (h := ?_) | refine zn_ HT (h := ?_))
      refine on_ HT (h := fun K hK => ?_)
      refine ev_ (w1 := w3.alloc (.cells #[.slice none 0 0, .slice none 0 0, .slice none 0 0, .slice none 0 0, .slice none 0 0] 80)) (v := .pointer (some ⟨w3.heap.size, 0, none⟩)) (by go_simp; done) ?_
      refine hK.out _ _ ⟨al_cell (hHeld.1) _, al_cell (hHeld.2.1) _, al_cell (hHeld.2.2.1) _, al_cell (hHeld.2.2.2.1) _, al_cell (hHeld.2.2.2.2.1) _, al_cell (hHeld.2.2.2.2.2.1) _, al_cell (hHeld.2.2.2.2.2.2.1) _, al_cell (hHeld.2.2.2.2.2.2.2.1) _, al_cell (hHeld.2.2.2.2.2.2.2.2.1) _, al_cell (hHeld.2.2.2.2.2.2.2.2.2.1) _, al_cell (hHeld.2.2.2.2.2.2.2.2.2.2.1) _, al_cell (hHeld.2.2.2.2.2.2.2.2.2.2.2.1) _, al_cell (hHeld.2.2.2.2.2.2.2.2.2.2.2.2.1) _, al_cell (hHeld.2.2.2.2.2.2.2.2.2.2.2.2.2.1) _, al_cell (hHeld.2.2.2.2.2.2.2.2.2.2.2.2.2.2.1) _, al_cell (hHeld.2.2.2.2.2.2.2.2.2.2.2.2.2.2.2.1) _, al_cell (hHeld.2.2.2.2.2.2.2.2.2.2.2.2.2.2.2.2.1) _, al_cell (hHeld.2.2.2.2.2.2.2.2.2.2.2.2.2.2.2.2.2.1) _, al_cell (hHeld.2.2.2.2.2.2.2.2.2.2.2.2.2.2.2.2.2.2.1) _, below_alloc (hHeld.2.2.2.2.2.2.2.2.2.2.2.2.2.2.2.2.2.2.2.1) _, blk_al (hHeld.2.2.2.2.2.2.2.2.2.2.2.2.2.2.2.2.2.2.2.2.1) _, blk_al (hHeld.2.2.2.2.2.2.2.2.2.2.2.2.2.2.2.2.2.2.2.2.2.1) _, blk_al (hHeld.2.2.2.2.2.2.2.2.2.2.2.2.2.2.2.2.2.2.2.2.2.2) _⟩ (fun hHeld => ?_)
      refine norm_ ?_ (HJN (w3.heap.size, cs2) _ ⟨(hHeld.2.2.2.2.2.2.2.2.2.2.2.2.2.2.2.2.2.2.2.1), Kd.FK_mono (Kd.FK_below (Kd.FK_bound hF2) bl1) (fun k hk => ⟨hk.1.elim Or.inl (fun h => Or.inr (by rw [show wA.drew.heap.size = w.heap.size + 3 from hz] at h; exact h)), by have := hk.2; omega⟩), hz3, blk_new w3 _, (hHeld.2.2.2.2.2.2.2.2.2.2.2.2.2.2.2.2.2.2.2.2.1), (hHeld.2.2.2.2.2.2.2.2.2.2.2.2.2.2.2.2.2.2.2.2.2.1), (hHeld.2.2.2.2.2.2.2.2.2.2.2.2.2.2.2.2.2.2.2.2.2.2)⟩)
      simp only [putAll, Act.put, sbA, sbB, sbC]
    · refine ev_ (w1 := wA.drew.alloc (.cells #[.slice none 0 0, .slice none 0 0, .slice none 0 0, .slice none 0 0, .slice none 0 0] 80)) (v := .pointer (some ⟨wA.drew.heap.size, 0, none⟩)) (by go_simp; done) ?_
      have hsz : (wA.drew.alloc (.cells #[.slice none 0 0, .slice none 0 0, .slice none 0 0, .slice none 0 0, .slice none 0 0] 80)).heap.size = w.heap.size + 4 := by rw [alsz]; rw [show wA.drew.heap.size = w.heap.size + 3 from hz]
      refine hK.out _ _ ⟨al_cell (hHeld.1) _, al_cell (hHeld.2.1) _, al_cell (hHeld.2.2.1) _, al_cell (hHeld.2.2.2.1) _, al_cell (hHeld.2.2.2.2.1) _, al_cell (hHeld.2.2.2.2.2.1) _, al_cell (hHeld.2.2.2.2.2.2.1) _, al_cell (hHeld.2.2.2.2.2.2.2.1) _, al_cell (hHeld.2.2.2.2.2.2.2.2.1) _, al_cell (hHeld.2.2.2.2.2.2.2.2.2.1) _, al_cell (hHeld.2.2.2.2.2.2.2.2.2.2.1) _, al_cell (hHeld.2.2.2.2.2.2.2.2.2.2.2.1) _, al_cell (hHeld.2.2.2.2.2.2.2.2.2.2.2.2.1) _, al_cell (hHeld.2.2.2.2.2.2.2.2.2.2.2.2.2.1) _, al_cell (hHeld.2.2.2.2.2.2.2.2.2.2.2.2.2.2.1) _, al_cell (hHeld.2.2.2.2.2.2.2.2.2.2.2.2.2.2.2.1) _, al_cell (hHeld.2.2.2.2.2.2.2.2.2.2.2.2.2.2.2.2.1) _, al_cell (hHeld.2.2.2.2.2.2.2.2.2.2.2.2.2.2.2.2.2.1) _, al_cell (hHeld.2.2.2.2.2.2.2.2.2.2.2.2.2.2.2.2.2.2.1) _, below_alloc (hHeld.2.2.2.2.2.2.2.2.2.2.2.2.2.2.2.2.2.2.2.1) _, blk_al (hHeld.2.2.2.2.2.2.2.2.2.2.2.2.2.2.2.2.2.2.2.2.1) _, blk_al (hHeld.2.2.2.2.2.2.2.2.2.2.2.2.2.2.2.2.2.2.2.2.2.1) _, blk_al (hHeld.2.2.2.2.2.2.2.2.2.2.2.2.2.2.2.2.2.2.2.2.2.2) _⟩ (fun hHeld => ?_)
      refine nm_ (h := ?_)
      repeat (first | refine pn_ HT (h := ?_) | refine tn_ HT HW hHeld (h := ?_) | refine zn_ HT (h := ?_))
      refine on_ HT (h := fun K hK => ?_)
      refine cn_ (Calls.mono (hHG.out x [.slice B0 x.f0.length d0, .slice B1 x.f1.length d1, .slice B2 x.f2.length d2, .slice B3 x.f3.length d3, .slice B4 x.f4.length d4] f ⟨n, kd, i, v, t⟩ [.int .i64 (n : Int), .int .i64 kd, .int .i64 i, .int .i64 v, .int .i64 t.f0, .int .i64 t.f1, .int .i64 t.f2, .slice A7 t.f3.length c7] s.f5 (fun k => ok k ∧ k < w.heap.size) _ (Kd.FK_below HX.out (hHeld.2.2.2.2.2.2.2.2.2.2.2.2.2.2.2.2.2.2.2.1)) (Kd.FK_below HC.out (hHeld.2.2.2.2.2.2.2.2.2.2.2.2.2.2.2.2.2.2.2.1)) HPR.out HF1.out HWH.out) (fun e w' ⟨cs2, he, h⟩ => ⟨_, he, cs2, by rw [HRR.out], by rw [HRR.out] at h; exact h⟩)) (R := (fun v w' => ∃ cs2, v = .tuple #[.agg cs2.toArray, .int .i64 r.2] ∧ Kd.FK k80 w' (nw (fun k => ok k ∧ k < w.heap.size) (wA.drew.alloc (.cells #[.slice none 0 0, .slice none 0 0, .slice none 0 0, .slice none 0 0, .slice none 0 0] 80))) r.1 cs2 ∧ Below (wA.drew.alloc (.cells #[.slice none 0 0, .slice none 0 0, .slice none 0 0, .slice none 0 0, .slice none 0 0] 80)).heap.size (wA.drew.alloc (.cells #[.slice none 0 0, .slice none 0 0, .slice none 0 0, .slice none 0 0, .slice none 0 0] 80)) w')) (h := fun v3' w3 hv3 => ?_)
      obtain ⟨cs2, rfl, hF2, hb3⟩ := hv3
      refine hK.out _ _ ⟨be_cell hb3 (hHeld.1), be_cell hb3 (hHeld.2.1), be_cell hb3 (hHeld.2.2.1), be_cell hb3 (hHeld.2.2.2.1), be_cell hb3 (hHeld.2.2.2.2.1), be_cell hb3 (hHeld.2.2.2.2.2.1), be_cell hb3 (hHeld.2.2.2.2.2.2.1), be_cell hb3 (hHeld.2.2.2.2.2.2.2.1), be_cell hb3 (hHeld.2.2.2.2.2.2.2.2.1), be_cell hb3 (hHeld.2.2.2.2.2.2.2.2.2.1), be_cell hb3 (hHeld.2.2.2.2.2.2.2.2.2.2.1), be_cell hb3 (hHeld.2.2.2.2.2.2.2.2.2.2.2.1), be_cell hb3 (hHeld.2.2.2.2.2.2.2.2.2.2.2.2.1), be_cell hb3 (hHeld.2.2.2.2.2.2.2.2.2.2.2.2.2.1), be_cell hb3 (hHeld.2.2.2.2.2.2.2.2.2.2.2.2.2.2.1), be_cell hb3 (hHeld.2.2.2.2.2.2.2.2.2.2.2.2.2.2.2.1), be_cell hb3 (hHeld.2.2.2.2.2.2.2.2.2.2.2.2.2.2.2.2.1), be_cell hb3 (hHeld.2.2.2.2.2.2.2.2.2.2.2.2.2.2.2.2.2.1), be_cell hb3 (hHeld.2.2.2.2.2.2.2.2.2.2.2.2.2.2.2.2.2.2.1), below_step (hHeld.2.2.2.2.2.2.2.2.2.2.2.2.2.2.2.2.2.2.2.1) hb3, blk_below (hHeld.2.2.2.2.2.2.2.2.2.2.2.2.2.2.2.2.2.2.2.2.1) hb3, blk_below (hHeld.2.2.2.2.2.2.2.2.2.2.2.2.2.2.2.2.2.2.2.2.2.1) hb3, blk_below (hHeld.2.2.2.2.2.2.2.2.2.2.2.2.2.2.2.2.2.2.2.2.2.2) hb3⟩ (fun hHeld => ?_)
      refine nm_ (h := ?_)
      iterate 3 refine pn_ HT (h := ?_)
      refine norm_ ?_ (HJN (wA.drew.heap.size, cs2) _ ⟨(hHeld.2.2.2.2.2.2.2.2.2.2.2.2.2.2.2.2.2.2.2.1), Kd.FK_mono hF2 (fun k hk => ⟨hk.elim Or.inl (fun h => Or.inr (by rw [hsz] at h; omega)), fun he => hk.elim (fun h => by have := h.2; rw [he, show wA.drew.heap.size = w.heap.size + 3 from hz] at this; omega) (fun h => by rw [he, hsz, show wA.drew.heap.size = w.heap.size + 3 from hz] at h; omega)⟩), (by show w.heap.size + 3 ≤ wA.drew.heap.size; rw [show wA.drew.heap.size = w.heap.size + 3 from hz]; omega), blk_below (blk_new wA.drew _) hb3, (hHeld.2.2.2.2.2.2.2.2.2.2.2.2.2.2.2.2.2.2.2.2.1), (hHeld.2.2.2.2.2.2.2.2.2.2.2.2.2.2.2.2.2.2.2.2.2.1), (hHeld.2.2.2.2.2.2.2.2.2.2.2.2.2.2.2.2.2.2.2.2.2.2)⟩)
      simp only [putAll, Act.put, sbA, sbB, sbC]
  · obtain ⟨g8, cs2⟩ := q
    obtain ⟨hb5, hF5, hg8, hB8, hX5, hC5, hR5⟩ := hF
    dsimp only at hb5 hF5 hg8 hB8 hX5 hC5 hR5 ⊢
    refine norm_ (by (simp only [putAll, Act.put, sbA, sbB, sbC]; rfl)) ?_
    obtain ⟨D0, k0, D1, k1, D2, k2, D3, k3, D4, k4, rfl, -, -, -, -, -, -, -, -, -, -⟩ := k80_openF hF5
    repeat (first | refine pn_ HT (h := ?_) | refine tn_ HT HW hHeld (h := ?_) | refine zn_ HT (h := ?_))
    refine ln_ HT (h := fun K hK => ?_)
    refine stB_step (w0 := w) (base := w.heap.size) (seg := [.slice D0 r.1.f0.length k0, .slice D1 r.1.f1.length k1, .slice D2 r.1.f2.length k2, .slice D3 r.1.f3.length k3, .slice D4 r.1.f4.length k4]) (cs' := [.slice D0 r.1.f0.length k0, .slice D1 r.1.f1.length k1, .slice D2 r.1.f2.length k2, .slice D3 r.1.f3.length k3, .slice D4 r.1.f4.length k4]) hB8 hb5 (by omega) (h := fun w6 hB6 hb6 hg6 => ?_)
    refine hK.out _ _ ?_
    repeat (first | refine pn_ HT (h := ?_) | refine zn_ HT (h := ?_))
    refine dn_ HT (h := ?_)
    clear HT HW hHeld hK K
    have hX6 := blk_grown hX5 hg6 (fun he => by have h2 := Option.some.inj he; (try dsimp only at h2); omega)
    have hC6 := blk_grown hC5 hg6 (fun he => by have h2 := Option.some.inj he; (try dsimp only at h2); omega)
    have hR6 := blk_grown hR5 hg6 (fun he => by have h2 := Option.some.inj he; (try dsimp only at h2); omega)
    have HF6 := Aside0.mk (Kd.FK_grown hF5 hg6 (fun k hk he => hk.2 (Option.some.inj he)))
    have H6 := Aside0.mk (Kd.FK_below H.out hb6)
    obtain ⟨x0, x1, x2, x3, x4, x5⟩ := bx6 hX6
    obtain ⟨y0, y1, y2, y3, y4, y5, y6, y7⟩ := bx8 hC6
    obtain ⟨u0, u1, u2, u3, u4⟩ := bx5 hB6
    have hs6 := hb6.size
    have hl6 := (Array.getElem?_eq_some_iff.1 hR6).1
    clear e0 e1 e2 e3 e4 f0 f1 hX5 hC5 hR5 hB8 hF5 hb5 hg6 hcap
    go_wp2_with fail
    refine (kernel_with.calls s [.int .i64 s.f0, .slice A1 s.f1.length c1, .slice (some adF) s.f2.length c2, .slice (some adP) s.f3.length c3, .slice A4 s.f4.length c4, .int .i64 s.f5] n r.1 [.slice D0 r.1.f0.length k0, .slice D1 r.1.f1.length k1, .slice D2 r.1.f2.length k2, .slice D3 r.1.f3.length k3, .slice D4 r.1.f4.length k4] (fun k => ((ok k ∧ k < w.heap.size) ∨ w.heap.size + 3 ≤ k) ∧ k ≠ g8) w6 (Kd.FK_mono H6.out (fun k hk => ⟨Or.inl hk, by omega⟩)) HF6.out hn HL4.out).mono ?_; rintro _ w7 ⟨cs7, rfl, hF7, hb7⟩
    have hR7 := blk_below hR6 hb7
    have hb8 := below_step hb6 hb7
    have HF7 := Aside0.mk (Kd.FK_mono (ok' := fun k => (ok k ∧ k < w.heap.size) ∨ w.heap.size + 3 ≤ k) hF7 (fun k hk => hk.elim (fun h => h.1) (fun h => Or.inr (by omega))))
    have hvv := HV.out
    generalize withP s n r.1 = s2 at hF7 HF7 hvv
    obtain ⟨E1, j1, E2, j2, E3, j3, E4, j4, rfl, -, -, -, -, -, -, -, -⟩ := k66_openF hF7
    clear hF7 x0 x1 x2 x3 x4 x5 y0 y1 y2 y3 y4 y5 y6 y7 u0 u1 u2 u3 u4
    go_wp2_with ((with_reducible refine gate_store (t := 66) (p := 5) (v := .tmp 34) rfl ?_); refine stop_ ?_)
    refine ⟨?_⟩
    refine stB (w0 := w) (base := w.heap.size) (seg := [.int .i64 s2.f0, .slice E1 s2.f1.length j1, .slice E2 s2.f2.length j2, .slice E3 s2.f3.length j3, .slice E4 s2.f4.length j4, .int .i64 s2.f5]) (cs' := [.int .i64 s2.f0, .slice E1 s2.f1.length j1, .slice E2 s2.f2.length j2, .slice E3 s2.f3.length j3, .slice E4 s2.f4.length j4, .int .i64 s2.f5]) hR7 hb8 (by omega) (h := fun w9 hR9 hb9 hg9 => ?_)
    have HF9 := Aside0.mk (Kd.FK_mono (ok' := nw ok w) (Kd.FK_grown HF7.out hg9 (fun k hk he => by have h2 := Option.some.inj he; (try dsimp only at h2); omega)) (fun k hk => hk.elim (fun h => Or.inl h.1) (fun h => Or.inr (by omega))))
    have HVV := Aside0.mk hvv
    clear hvv
    go_wp2
    refine bodyPost_ret (results_list (rs := [.cell 5 66, .tmp 6, .tmp 7]) rfl (by simp) (.cell _ 66 _ (0, 0) _ rfl hR9 Tryz.underlying66 rfl (by kernel_rfl) (.tmp (.tmp .nil)))) rfl ?_
    rw [HVV.out]
    exact ⟨_, rfl, HF9.out, hb9⟩
def linesP (s : S66) (l : List S135) : S66 := ⟨s.f0, s.f1, s.f2, s.f3, l, s.f5⟩
def sendS (s : S66) (c : S46) : S66 × Int × Int := (linesP s (sendL s.f4 c.f0 c.f2 c.f3).1, 0, (sendL s.f4 c.f0 c.f2 c.f3).2)
def readS (s : S66) (c : S46) : S66 × Int × Int := (linesP s (readL s.f4 c.f0 c.f2).2.1, (readL s.f4 c.f0 c.f2).1, (readL s.f4 c.f0 c.f2).2.2)
theorem kinds5.calls (s : S66) (cs : List Value) (c : S46) (cc : List Value) (ok : Nat → Prop) (w : World) (h : Kd.FK k66 w ok s cs) (hc : Kd.FK k46 w ok c cc) (hR : portR s.f4 = true) :
    Calls Tryz.prog 67 #[.agg cs.toArray, .agg cc.toArray] w fun e w' => ∃ cs', e = .returned (.tuple #[.agg cs'.toArray, .int .i64 (sendS s c).2.1, .int .i64 (sendS s c).2.2]) ∧ Kd.FK k66 w' (nw ok w) (sendS s c).1 cs' ∧ Below w.heap.size w w' := by
  have hu := Tryz.underlying66
  have hu2 := Tryz.underlying46
  obtain ⟨A1, c1, A2, c2, A3, c3, A4, c4, rfl, l1, g1, l2, g2, l3, g3, l4, g4⟩ := k66_openF (Kd.FK_bound h)
  obtain ⟨A7, c7, rfl, l7, -⟩ := k46_openF (Kd.FK_bound hc)
  have G1 := Aside0.mk g1
  have G2 := Aside0.mk g2
  have G3 := Aside0.mk g3
  have G4 := Aside0.mk g4
  have HR := Aside0.mk hR
  clear h hc hR g1 g2 g3 g4
  have hb := @bl3 w (.cells #[.int .i64 s.f0, .slice A1 s.f1.length c1, .slice A2 s.f2.length c2, .slice A3 s.f3.length c3, .slice A4 s.f4.length c4, .int .i64 s.f5] 66) (.cells #[.int .i64 c.f0, .int .i64 c.f1, .int .i64 c.f2, .int .i64 c.f3, .int .i64 c.f4.f0, .int .i64 c.f4.f1, .int .i64 c.f4.f2, .slice A7 c.f4.f3.length c7] 46) (.cells #[.int .i64 0, .slice none 0 0, .slice none 0 0, .slice none 0 0, .slice none 0 0, .int .i64 0] 66)
  have hz : (((w.alloc (.cells #[.int .i64 s.f0, .slice A1 s.f1.length c1, .slice A2 s.f2.length c2, .slice A3 s.f3.length c3, .slice A4 s.f4.length c4, .int .i64 s.f5] 66)).alloc (.cells #[.int .i64 c.f0, .int .i64 c.f1, .int .i64 c.f2, .int .i64 c.f3, .int .i64 c.f4.f0, .int .i64 c.f4.f1, .int .i64 c.f4.f2, .slice A7 c.f4.f3.length c7] 46)).alloc (.cells #[.int .i64 0, .slice none 0 0, .slice none 0 0, .slice none 0 0, .slice none 0 0, .int .i64 0] 66)).heap.size = w.heap.size + 3 := by rw [alsz, alsz, alsz]
  have hX := blk_al (blk_al (blk_new w (.cells #[.int .i64 s.f0, .slice A1 s.f1.length c1, .slice A2 s.f2.length c2, .slice A3 s.f3.length c3, .slice A4 s.f4.length c4, .int .i64 s.f5] 66)) (.cells #[.int .i64 c.f0, .int .i64 c.f1, .int .i64 c.f2, .int .i64 c.f3, .int .i64 c.f4.f0, .int .i64 c.f4.f1, .int .i64 c.f4.f2, .slice A7 c.f4.f3.length c7] 46)) (.cells #[.int .i64 0, .slice none 0 0, .slice none 0 0, .slice none 0 0, .slice none 0 0, .int .i64 0] 66)
  have hRb := blk_new ((w.alloc (.cells #[.int .i64 s.f0, .slice A1 s.f1.length c1, .slice A2 s.f2.length c2, .slice A3 s.f3.length c3, .slice A4 s.f4.length c4, .int .i64 s.f5] 66)).alloc (.cells #[.int .i64 c.f0, .int .i64 c.f1, .int .i64 c.f2, .int .i64 c.f3, .int .i64 c.f4.f0, .int .i64 c.f4.f1, .int .i64 c.f4.f2, .slice A7 c.f4.f3.length c7] 46)) (.cells #[.int .i64 0, .slice none 0 0, .slice none 0 0, .slice none 0 0, .slice none 0 0, .int .i64 0] 66)
  rw [show ((w.alloc (.cells #[.int .i64 s.f0, .slice A1 s.f1.length c1, .slice A2 s.f2.length c2, .slice A3 s.f3.length c3, .slice A4 s.f4.length c4, .int .i64 s.f5] 66)).alloc (.cells #[.int .i64 c.f0, .int .i64 c.f1, .int .i64 c.f2, .int .i64 c.f3, .int .i64 c.f4.f0, .int .i64 c.f4.f1, .int .i64 c.f4.f2, .slice A7 c.f4.f3.length c7] 46)).heap.size = w.heap.size + 2 by rw [alsz, alsz]] at hRb
  go_enter Tryz.func67, Tryz.ntmps67
  go_wp2_with fail
  refine (port_Send.calls A4 c4 s.f4 c.f0 c.f2 c.f3 (fun k => ok k ∧ k < w.heap.size) _ (Kd.F_below G4.out hb) l4 HR.out).mono ?_; rintro _ w2 ⟨A', c', rfl, hc2, hF2, hb2⟩
  have HV := Aside0.mk (show sendS s c = (linesP s (sendL s.f4 c.f0 c.f2 c.f3).1, 0, (sendL s.f4 c.f0 c.f2 c.f3).2) from rfl)
  have hX2 := blk_below hX hb2
  have hR2 := blk_below hRb hb2
  have hb3 := below_step hb hb2
  have hF2 := Kd.F_mono (ok' := fun k => (ok k ∧ k < w.heap.size) ∨ w.heap.size + 3 ≤ k) hF2 (fun k hk => hk.elim Or.inl (fun h => Or.inr (by rw [hz] at h; exact h)))
  have HF2 := Aside0.mk hF2
  clear hF2 hb2 hb hX hRb
  generalize sendL s.f4 c.f0 c.f2 c.f3 = r at HF2 HV hc2 ⊢
  obtain ⟨x0, x1, x2, x3, x4, x5⟩ := bx6 hX2
  go_wp2_with ((with_reducible refine gate_store (t := 64) (p := 22) (v := .tmp 21) rfl ?_); refine stop_ ?_)
  refine ⟨?_⟩
  refine stB (w0 := w) (base := w.heap.size) (seg := [.slice A' r.1.length c']) (cs' := [.int .i64 s.f0, .slice A1 s.f1.length c1, .slice A2 s.f2.length c2, .slice A3 s.f3.length c3, .slice A' r.1.length c', .int .i64 s.f5]) hX2 hb3 (Nat.le_refl _) (h := fun w6 hX6 hb6 hg6 => ?_)
  have hR6 := blk_grown hR2 hg6 (fun he => by have h2 := Option.some.inj he; (try dsimp only at h2); omega)
  have HF6 := Aside0.mk (Kd.F_grown HF2.out hg6 (fun k hk he => by have h2 := Option.some.inj he; (try dsimp only at h2); omega))
  clear x0 x1 x2 x3 x4 x5
  obtain ⟨x0, x1, x2, x3, x4, x5⟩ := bx6 hX6
  go_wp2_with ((with_reducible refine gate_store (t := 66) (p := 4) (v := .tmp 23) rfl ?_); refine stop_ ?_)
  refine ⟨?_⟩
  refine stB (w0 := w) (base := w.heap.size) (seg := [.int .i64 s.f0, .slice A1 s.f1.length c1, .slice A2 s.f2.length c2, .slice A3 s.f3.length c3, .slice A' r.1.length c', .int .i64 s.f5]) (cs' := [.int .i64 s.f0, .slice A1 s.f1.length c1, .slice A2 s.f2.length c2, .slice A3 s.f3.length c3, .slice A' r.1.length c', .int .i64 s.f5]) hR6 hb6 (by omega) (h := fun w9 hR9 hb9 hg9 => ?_)
  have HF9 := Aside0.mk (Kd.F_mono (ok' := nw ok w) (Kd.F_grown HF6.out hg9 (fun k hk he => by have h2 := Option.some.inj he; (try dsimp only at h2); omega)) (fun k hk => hk.elim (fun h => Or.inl h.1) (fun h => Or.inr (by omega))))
  go_wp2
  refine bodyPost_ret (results_list (rs := [.cell 4 66, .tmp 5, .tmp 6]) rfl (by simp) (.cell _ 66 _ (0, 0) _ rfl hR9 Tryz.underlying66 rfl (by kernel_rfl) (.tmp (.tmp .nil)))) rfl ?_
  rw [HV.out]
  exact ⟨_, rfl, k66_mkF w9 (nw ok w) (linesP s r.1) l1 (Kd.F_mono (Kd.F_below G1.out hb9) (fun k hk => Or.inl hk.1)) l2 (Kd.F_mono (Kd.F_below G2.out hb9) (fun k hk => Or.inl hk.1)) l3 (Kd.F_mono (Kd.F_below G3.out hb9) (fun k hk => Or.inl hk.1)) hc2 HF9.out, hb9⟩
theorem kinds6.calls (s : S66) (cs : List Value) (c : S46) (cc : List Value) (ok : Nat → Prop) (w : World) (h : Kd.FK k66 w ok s cs) (hc : Kd.FK k46 w ok c cc) (hR : portR s.f4 = true) :
    Calls Tryz.prog 69 #[.agg cs.toArray, .agg cc.toArray] w fun e w' => ∃ cs', e = .returned (.tuple #[.agg cs'.toArray, .int .i64 (readS s c).2.1, .int .i64 (readS s c).2.2]) ∧ Kd.FK k66 w' (nw ok w) (readS s c).1 cs' ∧ Below w.heap.size w w' := by
  have hu := Tryz.underlying66
  have hu2 := Tryz.underlying46
  obtain ⟨A1, c1, A2, c2, A3, c3, A4, c4, rfl, l1, g1, l2, g2, l3, g3, l4, g4⟩ := k66_openF (Kd.FK_bound h)
  obtain ⟨A7, c7, rfl, l7, -⟩ := k46_openF (Kd.FK_bound hc)
  have G1 := Aside0.mk g1
  have G2 := Aside0.mk g2
  have G3 := Aside0.mk g3
  have G4 := Aside0.mk g4
  have HR := Aside0.mk hR
  clear h hc hR g1 g2 g3 g4
  have hb := @bl3 w (.cells #[.int .i64 s.f0, .slice A1 s.f1.length c1, .slice A2 s.f2.length c2, .slice A3 s.f3.length c3, .slice A4 s.f4.length c4, .int .i64 s.f5] 66) (.cells #[.int .i64 c.f0, .int .i64 c.f1, .int .i64 c.f2, .int .i64 c.f3, .int .i64 c.f4.f0, .int .i64 c.f4.f1, .int .i64 c.f4.f2, .slice A7 c.f4.f3.length c7] 46) (.cells #[.int .i64 0, .slice none 0 0, .slice none 0 0, .slice none 0 0, .slice none 0 0, .int .i64 0] 66)
  have hz : (((w.alloc (.cells #[.int .i64 s.f0, .slice A1 s.f1.length c1, .slice A2 s.f2.length c2, .slice A3 s.f3.length c3, .slice A4 s.f4.length c4, .int .i64 s.f5] 66)).alloc (.cells #[.int .i64 c.f0, .int .i64 c.f1, .int .i64 c.f2, .int .i64 c.f3, .int .i64 c.f4.f0, .int .i64 c.f4.f1, .int .i64 c.f4.f2, .slice A7 c.f4.f3.length c7] 46)).alloc (.cells #[.int .i64 0, .slice none 0 0, .slice none 0 0, .slice none 0 0, .slice none 0 0, .int .i64 0] 66)).heap.size = w.heap.size + 3 := by rw [alsz, alsz, alsz]
  have hX := blk_al (blk_al (blk_new w (.cells #[.int .i64 s.f0, .slice A1 s.f1.length c1, .slice A2 s.f2.length c2, .slice A3 s.f3.length c3, .slice A4 s.f4.length c4, .int .i64 s.f5] 66)) (.cells #[.int .i64 c.f0, .int .i64 c.f1, .int .i64 c.f2, .int .i64 c.f3, .int .i64 c.f4.f0, .int .i64 c.f4.f1, .int .i64 c.f4.f2, .slice A7 c.f4.f3.length c7] 46)) (.cells #[.int .i64 0, .slice none 0 0, .slice none 0 0, .slice none 0 0, .slice none 0 0, .int .i64 0] 66)
  have hRb := blk_new ((w.alloc (.cells #[.int .i64 s.f0, .slice A1 s.f1.length c1, .slice A2 s.f2.length c2, .slice A3 s.f3.length c3, .slice A4 s.f4.length c4, .int .i64 s.f5] 66)).alloc (.cells #[.int .i64 c.f0, .int .i64 c.f1, .int .i64 c.f2, .int .i64 c.f3, .int .i64 c.f4.f0, .int .i64 c.f4.f1, .int .i64 c.f4.f2, .slice A7 c.f4.f3.length c7] 46)) (.cells #[.int .i64 0, .slice none 0 0, .slice none 0 0, .slice none 0 0, .slice none 0 0, .int .i64 0] 66)
  rw [show ((w.alloc (.cells #[.int .i64 s.f0, .slice A1 s.f1.length c1, .slice A2 s.f2.length c2, .slice A3 s.f3.length c3, .slice A4 s.f4.length c4, .int .i64 s.f5] 66)).alloc (.cells #[.int .i64 c.f0, .int .i64 c.f1, .int .i64 c.f2, .int .i64 c.f3, .int .i64 c.f4.f0, .int .i64 c.f4.f1, .int .i64 c.f4.f2, .slice A7 c.f4.f3.length c7] 46)).heap.size = w.heap.size + 2 by rw [alsz, alsz]] at hRb
  go_enter Tryz.func69, Tryz.ntmps69
  go_wp2_with fail
  refine (port_Read.calls A4 c4 s.f4 c.f0 c.f2 (fun k => ok k ∧ k < w.heap.size) _ (Kd.F_below G4.out hb) l4 HR.out).mono ?_; rintro _ w2 ⟨A', c', rfl, hc2, hF2, hb2⟩
  have HV := Aside0.mk (show readS s c = (linesP s (readL s.f4 c.f0 c.f2).2.1, (readL s.f4 c.f0 c.f2).1, (readL s.f4 c.f0 c.f2).2.2) from rfl)
  have hX2 := blk_below hX hb2
  have hR2 := blk_below hRb hb2
  have hb3 := below_step hb hb2
  have hF2 := Kd.F_mono (ok' := fun k => (ok k ∧ k < w.heap.size) ∨ w.heap.size + 3 ≤ k) hF2 (fun k hk => hk.elim Or.inl (fun h => Or.inr (by rw [hz] at h; exact h)))
  have HF2 := Aside0.mk hF2
  clear hF2 hb2 hb hX hRb
  generalize readL s.f4 c.f0 c.f2 = r at HF2 HV hc2 ⊢
  obtain ⟨x0, x1, x2, x3, x4, x5⟩ := bx6 hX2
  go_wp2_with ((with_reducible refine gate_store (t := 64) (p := 22) (v := .tmp 21) rfl ?_); refine stop_ ?_)
  refine ⟨?_⟩
  refine stB (w0 := w) (base := w.heap.size) (seg := [.slice A' r.2.1.length c']) (cs' := [.int .i64 s.f0, .slice A1 s.f1.length c1, .slice A2 s.f2.length c2, .slice A3 s.f3.length c3, .slice A' r.2.1.length c', .int .i64 s.f5]) hX2 hb3 (Nat.le_refl _) (h := fun w6 hX6 hb6 hg6 => ?_)
  have hR6 := blk_grown hR2 hg6 (fun he => by have h2 := Option.some.inj he; (try dsimp only at h2); omega)
  have HF6 := Aside0.mk (Kd.F_grown HF2.out hg6 (fun k hk he => by have h2 := Option.some.inj he; (try dsimp only at h2); omega))
  clear x0 x1 x2 x3 x4 x5
  obtain ⟨x0, x1, x2, x3, x4, x5⟩ := bx6 hX6
  go_wp2_with ((with_reducible refine gate_store (t := 66) (p := 4) (v := .tmp 23) rfl ?_); refine stop_ ?_)
  refine ⟨?_⟩
  refine stB (w0 := w) (base := w.heap.size) (seg := [.int .i64 s.f0, .slice A1 s.f1.length c1, .slice A2 s.f2.length c2, .slice A3 s.f3.length c3, .slice A' r.2.1.length c', .int .i64 s.f5]) (cs' := [.int .i64 s.f0, .slice A1 s.f1.length c1, .slice A2 s.f2.length c2, .slice A3 s.f3.length c3, .slice A' r.2.1.length c', .int .i64 s.f5]) hR6 hb6 (by omega) (h := fun w9 hR9 hb9 hg9 => ?_)
  have HF9 := Aside0.mk (Kd.F_mono (ok' := nw ok w) (Kd.F_grown HF6.out hg9 (fun k hk he => by have h2 := Option.some.inj he; (try dsimp only at h2); omega)) (fun k hk => hk.elim (fun h => Or.inl h.1) (fun h => Or.inr (by omega))))
  go_wp2
  refine bodyPost_ret (results_list (rs := [.cell 4 66, .tmp 5, .tmp 6]) rfl (by simp) (.cell _ 66 _ (0, 0) _ rfl hR9 Tryz.underlying66 rfl (by kernel_rfl) (.tmp (.tmp .nil)))) rfl ?_
  rw [HV.out]
  exact ⟨_, rfl, k66_mkF w9 (nw ok w) (linesP s r.2.1) l1 (Kd.F_mono (Kd.F_below G1.out hb9) (fun k hk => Or.inl hk.1)) l2 (Kd.F_mono (Kd.F_below G2.out hb9) (fun k hk => Or.inl hk.1)) l3 (Kd.F_mono (Kd.F_below G3.out hb9) (fun k hk => Or.inl hk.1)) hc2 HF9.out, hb9⟩
end Go.Proofs.YtmngaagojkihbaaGreat.FTop
