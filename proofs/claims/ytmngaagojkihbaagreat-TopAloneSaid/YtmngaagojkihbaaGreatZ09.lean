/- Contracts of functions that the statement TopAlone reaches, and plain lemmas. No condition. -/
import Derived.Test.YtmngaagojkihbaaGreatZ08
namespace Go.Proofs.YtmngaagojkihbaaGreat.FTop
open Go.RowKit Go.Proofs.YtmngaagojkihbaaGreatW.PrintWords Go.Proofs.YtmngaagojkihbaaGreatW.PrintLast Go.Proofs.YtmngaagojkihbaaGreatW.PrintMore
attribute [local go_sem] max2_int min2_int max_two min_two
set_option linter.unusedVariables false
set_option linter.unusedSimpArgs false
set_option maxHeartbeats 8000000
set_option maxRecDepth 100000
def part_Release.T14 : Bool × List (List Nat × List Nat) := (true, [([], []), ([], []), ([], []), ([2], [2]), ([1, 3], [1, 3]), ([], []), ([], []), ([], []), ([], []), ([8], [8]), ([], []), ([9, 10], [9, 10]), ([11], [11]), ([12], [12]), ([7, 13], [7, 13]), ([], []), ([5, 6, 14, 15], [5, 6, 14, 15]), ([16], [16]), ([4, 17, 4], [4, 17]), ([0, 0, 1, 2, 3, 4, 5, 6, 7, 8, 9, 10, 11, 12, 13, 14, 15, 16, 17, 18], [0]), ([19, 0, 1, 2, 3, 4, 5, 6, 7, 8, 9, 10, 11, 12, 13, 14, 15, 16, 17, 18], [19]), ([20, 0, 1, 2, 3, 4, 5, 6, 7, 8, 9, 10, 11, 12, 13, 14, 15, 16, 17, 18], [20]), ([21, 18, 18, 0, 1, 2, 3, 4, 5, 6, 7, 8, 9, 10, 11, 12, 13, 14, 15, 16, 17, 18], [18, 21])])
def part_Release.B14 : List Nat := [0, 0, 0, 4, 14, 0, 0, 0, 0, 256, 0, 1792, 3840, 7936, 16256, 0, 65504, 131040, 262142, 524287, 1048575, 2097151, 4194303]
theorem part_Release.tab14 : rtab .any (opsOf Tryz.f60 14) = part_Release.T14 := by kernel_rfl
theorem part_Release.bits14 : waitsOk part_Release.T14.2 part_Release.B14 = true := by kernel_rfl
section
variable {α : Type} {d : Kd α} {W : World} {e base : Nat} {ok okp : Nat → Prop}
theorem N_lits {xs : List α} {inner : List Value} (W : World) (base e : Nat) (hb : base ≤ W.heap.size) (hrep : Reps (Kd.FK d W okp) d.sz xs inner) (hok : ∀ k, okp k → ok k) (hfresh : ok W.heap.size) (hm : xs.length ≤ 9223372036854775807) :
    Kd.N d e (W.alloc (.cells inner.toArray e)) base ok (.slice (some ⟨W.heap.size, 0, none⟩) xs.length xs.length) xs := by
  have hR : (Kd.raw d.sz).R e (W.alloc (.cells inner.toArray e)) base (fun k => k = W.heap.size) (.slice (some ⟨W.heap.size, 0, none⟩) xs.length xs.length) (Kd.chunks d.sz xs.length inner) := by
    refine ⟨fun k hk => ?_, inner, ?_, ?_⟩
    · have : W.heap.size = k := by simpa [Value.ownBlock] using hk
      exact this.symm
    · have h2 := World.ownsRow_lit (base := base) (e := e) (size := d.sz) W inner.toArray xs.length hb (by simpa [maxLen] using hm) (by simpa using hrep.1)
      have h3 : (W.alloc (.cells inner.toArray e)).ownsRow base e d.sz (.slice (some ⟨W.heap.size, 0, none⟩) xs.length xs.length) xs.length inner := by simpa using h2
      rw [Kd.chunks_length]
      exact h3
    · exact Kd.reps_raw hrep (fun y c hk => ⟨d.K_len (Kd.FK_now hk), d.K_one (Kd.FK_now hk)⟩)
  exact Kd.N_made hR (World.grownBy_alloc W _ none) ⟨W.heap.size, by simp [Value.ownBlock], Nat.le_refl _⟩ (Kd.chunks_length _ _ _) (fun j y c hy hc => by rw [Kd.chunks_get hc]; exact hrep.2 j y hy) hok hfresh
theorem N_one {x : α} {c : List Value} (W : World) (base e : Nat) (hb : base ≤ W.heap.size) (hx : Kd.FK d W okp x c) (hok : ∀ k, okp k → ok k) (hfresh : ok W.heap.size) :
    Kd.N d e (W.alloc (.cells c.toArray e)) base ok (.slice (some ⟨W.heap.size, 0, none⟩) 1 1) [x] :=
  N_lits W base e hb (Reps.front hx (d.K_len (Kd.FK_now hx)) (Reps.none _ _) (List.append_nil _)) hok hfresh (by simp)
end
theorem flatI (W : World) (ok1 ok2 : Nat → Prop) (x : Int) (c : List Value) (h : Kd.FK (Kd.int .i64) W ok1 x c) : Kd.FK (Kd.int .i64) W ok2 x c := by
  have h2 : (Kd.int .i64).K W x c := Kd.FK_now h
  exact fun W' _ => h2
theorem flatB (W : World) (ok1 ok2 : Nat → Prop) (x : Bool) (c : List Value) (h : Kd.FK Kd.bool W ok1 x c) : Kd.FK Kd.bool W ok2 x c := by
  have h2 : Kd.bool.K W x c := Kd.FK_now h
  exact fun W' _ => h2
def releaseP (s : S80) (i want now : Int) : S80 × Int :=
  if i < 0 ∨ s.f0.length ≤ i ∨ want < 1 ∨ 200 < want then (s, 1)
  else if s.f1.getD i.toNat false then (s, 9)
  else if earlyB (s.f2.getD i.toNat 0) now (s.f0.getD i.toNat z44).f2 then (⟨s.f0, s.f1, s.f2, s.f3, noteL s.f4 now 2 i⟩, 6)
  else if 32 ≤ s.f3.length then (⟨s.f0, s.f1, s.f2, s.f3, noteL s.f4 now 3 i⟩, 3)
  else (⟨s.f0, s.f1, s.f2.set i.toNat now, s.f3 ++ [⟨i, now, now + (s.f0.getD i.toNat z44).f1, want, 0, false⟩], noteL s.f4 now 1 i⟩, 0)
theorem part_Release.calls (s : S80) (cs : List Value) (ok : Nat → Prop) (i want now : Int) (w : World) (h : Kd.FK k80 w ok s cs) (hR : partR s = true) (hw : whenB now = true) :
    Calls Tryz.prog 60 #[.agg cs.toArray, .int .i64 i, .int .i64 want, .int .i64 now] w fun e w' => ∃ cs', e = .returned (.tuple #[.agg cs'.toArray, .int .i64 (releaseP s i want now).2]) ∧ Kd.FK k80 w' (nw ok w) (releaseP s i want now).1 cs' ∧ Below w.heap.size w w' := by
  have hu := Tryz.underlying80
  obtain ⟨hR1, hR2, hR3, hR4⟩ := partR_iff.1 hR
  have HP := Aside0.mk hR2
  have HL1 := Aside0.mk hR1
  have HL2 := Aside0.mk (show s.f2.length = s.f0.length from (polR_iff.1 hR2).2.1)
  have hR6 : s.f0.length ≤ 8 := by have := (polR_iff.1 hR2).1; unfold taskA at this; rw [Bool.and_eq_true] at this; exact of_decide_eq_true this.2
  have hR7 : s.f3.length ≤ 32 := (jobA_iff2.1 hR3).2.1
  have HR := Aside0.mk hR
  have HWN := Aside0.mk hw
  have hwb : 0 ≤ now ∧ now ≤ 4611686018427387703 := of_decide_eq_true hw
  clear hR1 hR2 hR3 hR hw
  obtain ⟨A0, c0, A1, c1, A2, c2, A3, c3, A4, c4, rfl, l0, g0, l1, g1, l2, g2, l3, g3, l4, g4⟩ := k80_openF h
  have H := Aside0.mk h
  have G0 := Aside0.mk (Kd.F_bound g0)
  have G1 := Aside0.mk (Kd.F_bound g1)
  have G2 := Aside0.mk (Kd.F_bound g2)
  have G3 := Aside0.mk (Kd.F_bound g3)
  clear h g0 g1 g2 g3 g4
  by_cases q1 : i < 0
  · have hv := Aside0.mk (show releaseP s i want now = (s, 1) by unfold releaseP; rw [if_pos (Or.inl q1)])
    go_enter Tryz.func60, Tryz.ntmps60
    go_wp2_with fail
    have hB0 := blk_al (blk_new w (.cells #[.slice A0 s.f0.length c0, .slice A1 s.f1.length c1, .slice A2 s.f2.length c2, .slice A3 s.f3.length c3, .slice A4 s.f4.length c4] 80)) (.cells #[.slice none 0 0, .slice none 0 0, .slice none 0 0, .slice none 0 0, .slice none 0 0] 80)
    have hRB := blk_new (w.alloc (.cells #[.slice A0 s.f0.length c0, .slice A1 s.f1.length c1, .slice A2 s.f2.length c2, .slice A3 s.f3.length c3, .slice A4 s.f4.length c4] 80)) (.cells #[.slice none 0 0, .slice none 0 0, .slice none 0 0, .slice none 0 0, .slice none 0 0] 80)
    have hb := @bl2 w (.cells #[.slice A0 s.f0.length c0, .slice A1 s.f1.length c1, .slice A2 s.f2.length c2, .slice A3 s.f3.length c3, .slice A4 s.f4.length c4] 80) (.cells #[.slice none 0 0, .slice none 0 0, .slice none 0 0, .slice none 0 0, .slice none 0 0] 80)
    have hz : (w.alloc (.cells #[.slice A0 s.f0.length c0, .slice A1 s.f1.length c1, .slice A2 s.f2.length c2, .slice A3 s.f3.length c3, .slice A4 s.f4.length c4] 80)).heap.size = w.heap.size + 1 := alsz
    rw [hz] at hRB
    refine (part_Right.calls s [.slice A0 s.f0.length c0, .slice A1 s.f1.length c1, .slice A2 s.f2.length c2, .slice A3 s.f3.length c3, .slice A4 s.f4.length c4] ok _ (Kd.FK_below H.out hb)).mono ?_; rintro e w2 ⟨rfl, hb2⟩
    rw [HR.out]
    have hB0' := Aside0.mk (blk_below hB0 hb2)
    have hRB' := Aside0.mk (blk_below hRB hb2)
    have hbA := below_step hb hb2
    clear hB0 hRB hb hb2
    obtain ⟨x0, x1, x2, x3, x4⟩ := bx5 hB0'.out
    go_wp2_with ((with_reducible refine gate_store (t := 80) (p := 8) (v := .tmp 41) rfl ?_); refine stB (w0 := w) (base := w.heap.size) (seg := [.slice A0 s.f0.length c0, .slice A1 s.f1.length c1, .slice A2 s.f2.length c2, .slice A3 s.f3.length c3, .slice A4 s.f4.length c4]) (cs' := [.slice A0 s.f0.length c0, .slice A1 s.f1.length c1, .slice A2 s.f2.length c2, .slice A3 s.f3.length c3, .slice A4 s.f4.length c4]) hRB'.out hbA (by omega) (h := fun wy hBy hby hgy => ?_))
    (try simp only [Exit.inBlock, Exit.then])
    refine bodyPost_ret (results_list (rs := [.cell 8 80, .tmp 9]) rfl (by simp) (.cell _ 80 _ (0, 0) _ rfl hBy Tryz.underlying80 rfl (by kernel_rfl) (.tmp .nil))) rfl ?_
    refine ⟨_, by rw [hv.out]; rfl, by rw [hv.out]; exact Kd.FK_mono (Kd.FK_below H.out hby) (fun k hk => Or.inl hk), hby⟩
  obtain ⟨n, rfl⟩ : ∃ n : Nat, i = n := ⟨i.toNat, by omega⟩
  by_cases q2 : (s.f0.length : Int) ≤ n
  · have hv := Aside0.mk (show releaseP s n want now = (s, 1) by unfold releaseP; rw [if_pos (Or.inr (Or.inl q2))])
    go_enter Tryz.func60, Tryz.ntmps60
    go_wp2_with fail
    have hB0 := blk_al (blk_new w (.cells #[.slice A0 s.f0.length c0, .slice A1 s.f1.length c1, .slice A2 s.f2.length c2, .slice A3 s.f3.length c3, .slice A4 s.f4.length c4] 80)) (.cells #[.slice none 0 0, .slice none 0 0, .slice none 0 0, .slice none 0 0, .slice none 0 0] 80)
    have hRB := blk_new (w.alloc (.cells #[.slice A0 s.f0.length c0, .slice A1 s.f1.length c1, .slice A2 s.f2.length c2, .slice A3 s.f3.length c3, .slice A4 s.f4.length c4] 80)) (.cells #[.slice none 0 0, .slice none 0 0, .slice none 0 0, .slice none 0 0, .slice none 0 0] 80)
    have hb := @bl2 w (.cells #[.slice A0 s.f0.length c0, .slice A1 s.f1.length c1, .slice A2 s.f2.length c2, .slice A3 s.f3.length c3, .slice A4 s.f4.length c4] 80) (.cells #[.slice none 0 0, .slice none 0 0, .slice none 0 0, .slice none 0 0, .slice none 0 0] 80)
    have hz : (w.alloc (.cells #[.slice A0 s.f0.length c0, .slice A1 s.f1.length c1, .slice A2 s.f2.length c2, .slice A3 s.f3.length c3, .slice A4 s.f4.length c4] 80)).heap.size = w.heap.size + 1 := alsz
    rw [hz] at hRB
    refine (part_Right.calls s [.slice A0 s.f0.length c0, .slice A1 s.f1.length c1, .slice A2 s.f2.length c2, .slice A3 s.f3.length c3, .slice A4 s.f4.length c4] ok _ (Kd.FK_below H.out hb)).mono ?_; rintro e w2 ⟨rfl, hb2⟩
    rw [HR.out]
    have hB0' := Aside0.mk (blk_below hB0 hb2)
    have hRB' := Aside0.mk (blk_below hRB hb2)
    have hbA := below_step hb hb2
    clear hB0 hRB hb hb2
    obtain ⟨x0, x1, x2, x3, x4⟩ := bx5 hB0'.out
    go_wp2_with ((with_reducible refine gate_store (t := 80) (p := 8) (v := .tmp 41) rfl ?_); refine stB (w0 := w) (base := w.heap.size) (seg := [.slice A0 s.f0.length c0, .slice A1 s.f1.length c1, .slice A2 s.f2.length c2, .slice A3 s.f3.length c3, .slice A4 s.f4.length c4]) (cs' := [.slice A0 s.f0.length c0, .slice A1 s.f1.length c1, .slice A2 s.f2.length c2, .slice A3 s.f3.length c3, .slice A4 s.f4.length c4]) hRB'.out hbA (by omega) (h := fun wy hBy hby hgy => ?_))
    (try simp only [Exit.inBlock, Exit.then])
    refine bodyPost_ret (results_list (rs := [.cell 8 80, .tmp 9]) rfl (by simp) (.cell _ 80 _ (0, 0) _ rfl hBy Tryz.underlying80 rfl (by kernel_rfl) (.tmp .nil))) rfl ?_
    refine ⟨_, by rw [hv.out]; rfl, by rw [hv.out]; exact Kd.FK_mono (Kd.FK_below H.out hby) (fun k hk => Or.inl hk), hby⟩
  by_cases q3 : want < 1
  · have hv := Aside0.mk (show releaseP s n want now = (s, 1) by unfold releaseP; rw [if_pos (Or.inr (Or.inr (Or.inl q3)))])
    go_enter Tryz.func60, Tryz.ntmps60
    go_wp2_with fail
    have hB0 := blk_al (blk_new w (.cells #[.slice A0 s.f0.length c0, .slice A1 s.f1.length c1, .slice A2 s.f2.length c2, .slice A3 s.f3.length c3, .slice A4 s.f4.length c4] 80)) (.cells #[.slice none 0 0, .slice none 0 0, .slice none 0 0, .slice none 0 0, .slice none 0 0] 80)
    have hRB := blk_new (w.alloc (.cells #[.slice A0 s.f0.length c0, .slice A1 s.f1.length c1, .slice A2 s.f2.length c2, .slice A3 s.f3.length c3, .slice A4 s.f4.length c4] 80)) (.cells #[.slice none 0 0, .slice none 0 0, .slice none 0 0, .slice none 0 0, .slice none 0 0] 80)
    have hb := @bl2 w (.cells #[.slice A0 s.f0.length c0, .slice A1 s.f1.length c1, .slice A2 s.f2.length c2, .slice A3 s.f3.length c3, .slice A4 s.f4.length c4] 80) (.cells #[.slice none 0 0, .slice none 0 0, .slice none 0 0, .slice none 0 0, .slice none 0 0] 80)
    have hz : (w.alloc (.cells #[.slice A0 s.f0.length c0, .slice A1 s.f1.length c1, .slice A2 s.f2.length c2, .slice A3 s.f3.length c3, .slice A4 s.f4.length c4] 80)).heap.size = w.heap.size + 1 := alsz
    rw [hz] at hRB
    refine (part_Right.calls s [.slice A0 s.f0.length c0, .slice A1 s.f1.length c1, .slice A2 s.f2.length c2, .slice A3 s.f3.length c3, .slice A4 s.f4.length c4] ok _ (Kd.FK_below H.out hb)).mono ?_; rintro e w2 ⟨rfl, hb2⟩
    rw [HR.out]
    have hB0' := Aside0.mk (blk_below hB0 hb2)
    have hRB' := Aside0.mk (blk_below hRB hb2)
    have hbA := below_step hb hb2
    clear hB0 hRB hb hb2
    obtain ⟨x0, x1, x2, x3, x4⟩ := bx5 hB0'.out
    go_wp2_with ((with_reducible refine gate_store (t := 80) (p := 8) (v := .tmp 41) rfl ?_); refine stB (w0 := w) (base := w.heap.size) (seg := [.slice A0 s.f0.length c0, .slice A1 s.f1.length c1, .slice A2 s.f2.length c2, .slice A3 s.f3.length c3, .slice A4 s.f4.length c4]) (cs' := [.slice A0 s.f0.length c0, .slice A1 s.f1.length c1, .slice A2 s.f2.length c2, .slice A3 s.f3.length c3, .slice A4 s.f4.length c4]) hRB'.out hbA (by omega) (h := fun wy hBy hby hgy => ?_))
    (try simp only [Exit.inBlock, Exit.then])
    refine bodyPost_ret (results_list (rs := [.cell 8 80, .tmp 9]) rfl (by simp) (.cell _ 80 _ (0, 0) _ rfl hBy Tryz.underlying80 rfl (by kernel_rfl) (.tmp .nil))) rfl ?_
    refine ⟨_, by rw [hv.out]; rfl, by rw [hv.out]; exact Kd.FK_mono (Kd.FK_below H.out hby) (fun k hk => Or.inl hk), hby⟩
  by_cases q4 : 200 < want
  · have hv := Aside0.mk (show releaseP s n want now = (s, 1) by unfold releaseP; rw [if_pos (Or.inr (Or.inr (Or.inr q4)))])
    go_enter Tryz.func60, Tryz.ntmps60
    go_wp2_with fail
    have hB0 := blk_al (blk_new w (.cells #[.slice A0 s.f0.length c0, .slice A1 s.f1.length c1, .slice A2 s.f2.length c2, .slice A3 s.f3.length c3, .slice A4 s.f4.length c4] 80)) (.cells #[.slice none 0 0, .slice none 0 0, .slice none 0 0, .slice none 0 0, .slice none 0 0] 80)
    have hRB := blk_new (w.alloc (.cells #[.slice A0 s.f0.length c0, .slice A1 s.f1.length c1, .slice A2 s.f2.length c2, .slice A3 s.f3.length c3, .slice A4 s.f4.length c4] 80)) (.cells #[.slice none 0 0, .slice none 0 0, .slice none 0 0, .slice none 0 0, .slice none 0 0] 80)
    have hb := @bl2 w (.cells #[.slice A0 s.f0.length c0, .slice A1 s.f1.length c1, .slice A2 s.f2.length c2, .slice A3 s.f3.length c3, .slice A4 s.f4.length c4] 80) (.cells #[.slice none 0 0, .slice none 0 0, .slice none 0 0, .slice none 0 0, .slice none 0 0] 80)
    have hz : (w.alloc (.cells #[.slice A0 s.f0.length c0, .slice A1 s.f1.length c1, .slice A2 s.f2.length c2, .slice A3 s.f3.length c3, .slice A4 s.f4.length c4] 80)).heap.size = w.heap.size + 1 := alsz
    rw [hz] at hRB
    refine (part_Right.calls s [.slice A0 s.f0.length c0, .slice A1 s.f1.length c1, .slice A2 s.f2.length c2, .slice A3 s.f3.length c3, .slice A4 s.f4.length c4] ok _ (Kd.FK_below H.out hb)).mono ?_; rintro e w2 ⟨rfl, hb2⟩
    rw [HR.out]
    have hB0' := Aside0.mk (blk_below hB0 hb2)
    have hRB' := Aside0.mk (blk_below hRB hb2)
    have hbA := below_step hb hb2
    clear hB0 hRB hb hb2
    obtain ⟨x0, x1, x2, x3, x4⟩ := bx5 hB0'.out
    go_wp2_with ((with_reducible refine gate_store (t := 80) (p := 8) (v := .tmp 41) rfl ?_); refine stB (w0 := w) (base := w.heap.size) (seg := [.slice A0 s.f0.length c0, .slice A1 s.f1.length c1, .slice A2 s.f2.length c2, .slice A3 s.f3.length c3, .slice A4 s.f4.length c4]) (cs' := [.slice A0 s.f0.length c0, .slice A1 s.f1.length c1, .slice A2 s.f2.length c2, .slice A3 s.f3.length c3, .slice A4 s.f4.length c4]) hRB'.out hbA (by omega) (h := fun wy hBy hby hgy => ?_))
    (try simp only [Exit.inBlock, Exit.then])
    refine bodyPost_ret (results_list (rs := [.cell 8 80, .tmp 9]) rfl (by simp) (.cell _ 80 _ (0, 0) _ rfl hBy Tryz.underlying80 rfl (by kernel_rfl) (.tmp .nil))) rfl ?_
    refine ⟨_, by rw [hv.out]; rfl, by rw [hv.out]; exact Kd.FK_mono (Kd.FK_below H.out hby) (fun k hk => Or.inl hk), hby⟩
  have hnl : n < s.f0.length := by omega
  have hl1 : n < s.f1.length := by have := HL1.out; omega
  have hv0 := Aside0.mk (show releaseP s n want now = if s.f1.getD n false then (s, 9) else if earlyB (s.f2.getD n 0) now (s.f0.getD n z44).f2 then (⟨s.f0, s.f1, s.f2, s.f3, noteL s.f4 now 2 n⟩, 6) else if 32 ≤ s.f3.length then (⟨s.f0, s.f1, s.f2, s.f3, noteL s.f4 now 3 n⟩, 3)
    else (⟨s.f0, s.f1, s.f2.set n now, s.f3 ++ [⟨n, now, now + (s.f0.getD n z44).f1, want, 0, false⟩], noteL s.f4 now 1 n⟩, 0) by unfold releaseP; rw [if_neg (by omega)]; rfl)
  go_enter Tryz.func60, Tryz.ntmps60
  go_wp2_with fail
  have hB0 := blk_al (blk_new w (.cells #[.slice A0 s.f0.length c0, .slice A1 s.f1.length c1, .slice A2 s.f2.length c2, .slice A3 s.f3.length c3, .slice A4 s.f4.length c4] 80)) (.cells #[.slice none 0 0, .slice none 0 0, .slice none 0 0, .slice none 0 0, .slice none 0 0] 80)
  have hRB := blk_new (w.alloc (.cells #[.slice A0 s.f0.length c0, .slice A1 s.f1.length c1, .slice A2 s.f2.length c2, .slice A3 s.f3.length c3, .slice A4 s.f4.length c4] 80)) (.cells #[.slice none 0 0, .slice none 0 0, .slice none 0 0, .slice none 0 0, .slice none 0 0] 80)
  have hb := @bl2 w (.cells #[.slice A0 s.f0.length c0, .slice A1 s.f1.length c1, .slice A2 s.f2.length c2, .slice A3 s.f3.length c3, .slice A4 s.f4.length c4] 80) (.cells #[.slice none 0 0, .slice none 0 0, .slice none 0 0, .slice none 0 0, .slice none 0 0] 80)
  have hz : (w.alloc (.cells #[.slice A0 s.f0.length c0, .slice A1 s.f1.length c1, .slice A2 s.f2.length c2, .slice A3 s.f3.length c3, .slice A4 s.f4.length c4] 80)).heap.size = w.heap.size + 1 := alsz
  rw [hz] at hRB
  refine (part_Right.calls s [.slice A0 s.f0.length c0, .slice A1 s.f1.length c1, .slice A2 s.f2.length c2, .slice A3 s.f3.length c3, .slice A4 s.f4.length c4] ok _ (Kd.FK_below H.out hb)).mono ?_; rintro e w2 ⟨rfl, hb2⟩
  rw [HR.out]
  have hB0' := Aside0.mk (blk_below hB0 hb2)
  have hRB' := Aside0.mk (blk_below hRB hb2)
  have hbA := below_step hb hb2
  clear hB0 hRB hb hb2
  obtain ⟨x0, x1, x2, x3, x4⟩ := bx5 hB0'.out
  go_wp2_with fail
  refine (part_when.calls now w2).mono ?_; rintro e w3 ⟨rfl, hb2⟩
  rw [HWN.out]
  have hB0 := Aside0.mk (blk_below hB0'.out hb2)
  have hRB := Aside0.mk (blk_below hRB'.out hb2)
  have hbB := below_step hbA hb2
  clear hB0' hRB' hb2 hbA x0 x1 x2 x3 x4
  obtain ⟨x0, x1, x2, x3, x4⟩ := bx5 hB0.out
  obtain ⟨ad, bv, rfl, hbv, e0⟩ := elB (Kd.F_now (Kd.F_below G1.out hbB)) n hl1
  have hb9 : s.f1.getD n false = bv := by rw [List.getD_eq_getElem?_getD, List.getElem?_eq_getElem hl1, Option.getD_some, hbv.out]
  have hv1 := Aside0.mk (hv0.out.trans (by rw [hb9]))
  clear hb9 hbv
  cases bv with
  | true =>
    have hv := Aside0.mk (hv1.out.trans (if_pos rfl))
    go_wp2_with ((with_reducible refine gate_store (t := 80) (p := 8) (v := .tmp 48) rfl ?_); refine stB (w0 := w) (base := w.heap.size) (seg := [.slice A0 s.f0.length c0, .slice (some ad) s.f1.length c1, .slice A2 s.f2.length c2, .slice A3 s.f3.length c3, .slice A4 s.f4.length c4]) (cs' := [.slice A0 s.f0.length c0, .slice (some ad) s.f1.length c1, .slice A2 s.f2.length c2, .slice A3 s.f3.length c3, .slice A4 s.f4.length c4]) hRB.out hbB (by omega) (h := fun wy hBy hby hgy => ?_))
    (try simp only [Exit.inBlock, Exit.then])
    refine bodyPost_ret (results_list (rs := [.cell 8 80, .tmp 9]) rfl (by simp) (.cell _ 80 _ (0, 0) _ rfl hBy Tryz.underlying80 rfl (by kernel_rfl) (.tmp .nil))) rfl ?_
    refine ⟨_, by rw [hv.out]; rfl, by rw [hv.out]; exact Kd.FK_mono (Kd.FK_below H.out hby) (fun k hk => Or.inl hk), hby⟩
  | false =>
    have hv2 := Aside0.mk (hv1.out.trans (if_neg (by simp)))
    go_wp2_with fail
    refine (part_take.calls s [.slice A0 s.f0.length c0, .slice (some ad) s.f1.length c1, .slice A2 s.f2.length c2, .slice A3 s.f3.length c3, .slice A4 s.f4.length c4] ok now w3 (Kd.FK_below H.out hbB) hR4).mono ?_; rintro e w4 ⟨g, lv, rfl, hg, hB4, hN4, hb4⟩
    have hw3 : w.heap.size + 2 ≤ w3.heap.size := blk_lt hRB.out
    have hRB4 := Aside0.mk (blk_below hRB.out hb4)
    have hbC := below_step hbB hb4
    have hX4 := Aside0.mk (blk_below hB0.out hb4)
    clear x0 x1 x2 x3 x4 hB0 hRB e0
    obtain ⟨x0, x1, x2, x3, x4⟩ := bx5 hX4.out
    have hgl := blk_lt hB4
    have hlv4 := fun (k : Nat) (he : some k = lv.ownBlock) => Kd.N_lt hN4 k he.symm
    have hlv4 := fun (k : Nat) (he : some k = lv.ownBlock) => Kd.N_lt hN4 k he.symm
    have hB4 : w4.heap[g]? = some (.cells #[lv, .int .i64 now, .slice A0 s.f0.length c0, .slice (some ad) s.f1.length c1, .slice A2 s.f2.length c2, .slice A3 s.f3.length c3, .slice A4 s.f4.length c4] 160 (0, 0)) := hB4
    by_cases ce : earlyB (s.f2.getD n 0) now (s.f0.getD n z44).f2 = true
    · have hv := Aside0.mk (hv2.out.trans (if_pos ce))
      go_wp2_with fail
      refine (police_Note.early A0 c0 s.f0 A2 c2 s.f2 n now w4 (Kd.F_now (Kd.F_below G0.out hbC)) (Kd.F_now (Kd.F_below G2.out hbC)) l2 l0 HP.out hnl hwb.1 hwb.2 ce).mono ?_; rintro e w5 ⟨rfl, hb5⟩
      clear ce
      have hRB5 := blk_below hRB4.out hb5
      have hbD := below_step hbC hb5
      have hB5 := blk_below hB4 hb5
      have hN5 := Kd.N_below hN4 hb5
      clear hN4 hB4
      go_wp2_with fail
      refine (book_note.calls w3.heap.size g lv s.f4 now 2 n _ _ _ _ _ w5 (Nat.le_trans hb4.size hb5.size) hg hB5 hN5).mono ?_
      rintro e w7 ⟨rfl, lv7, hB7, hN7, hb7, hk7, hr7⟩
      have hRBt := (hb7.block _ (by omega)).trans hRB5
      have hbt7 := Below.trans hbD (Below.mono hb7 (by omega))
      have hst7 : w3.heap.size ≤ w7.heap.size := Nat.le_trans (Nat.le_trans hb4.size hb5.size) hk7.1
      obtain ⟨A9, c9, rfl⟩ := Kd.N_slice hN7
      have h9 := (Kd.N_reads' hN7).2.1
      have HN9 := Aside0.mk (Kd.N_mono (ok' := fun k => w3.heap.size ≤ k ∧ k ≠ g) (N_tight flat38 hN7) (fun k hk => ⟨Kd.N_base hN7 k hk.symm, hN7.1 k hk.symm⟩))
      clear hN7
      go_wp2_with fail
      refine (hand_state.calls w3.heap.size g _ _ _ _ _ _ _ _ _ _ _ _ _ _ _ _ _ _ now w7 hst7 hg hB7).mono ?_
      rintro e wz ⟨rfl, hbs2, hks2⟩
      have hRBz := (hbs2.block _ (by omega)).trans hRBt
      have hbz := Below.trans hbt7 (Below.mono hbs2 (by omega))
      go_wp2_with ((with_reducible refine gate_store (t := 80) (p := 8) (v := .tmp 71) rfl ?_); refine stB (w0 := w) (base := w.heap.size) (seg := [.slice A0 s.f0.length c0, .slice (some ad) s.f1.length c1, .slice A2 s.f2.length c2, .slice A3 s.f3.length c3, .slice A9 (noteL s.f4 now 2 n).length c9]) (cs' := [.slice A0 s.f0.length c0, .slice (some ad) s.f1.length c1, .slice A2 s.f2.length c2, .slice A3 s.f3.length c3, .slice A9 (noteL s.f4 now 2 n).length c9]) hRBz hbz (by omega) (h := fun wy hBy hby hgy => ?_))
      (try simp only [Exit.inBlock, Exit.then])
      refine bodyPost_ret (results_list (rs := [.cell 8 80, .tmp 9]) rfl (by simp) (.cell _ 80 _ (0, 0) _ rfl hBy Tryz.underlying80 rfl (by kernel_rfl) (.tmp .nil))) rfl ?_
      have hgo : ∀ k, k ≠ g → k ≠ w.heap.size + 1 → k < w7.heap.size → wy.heap[k]? = w7.heap[k]? := fun k h1 h2 hlt => (hgy.block k (Nat.lt_of_lt_of_le hlt hks2.1) (fun he => h2 (Option.some.inj he))).trans (hks2.2 k hlt h1)
      refine ⟨_, by rw [hv.out]; rfl, by rw [hv.out]; exact k80_mkF wy (nw ok w) ⟨s.f0, s.f1, s.f2, s.f3, noteL s.f4 now 2 n⟩ l0 (Kd.F_mono (Kd.F_step (W1 := wy) (Kd.F_below G0.out hbt7) (fun k hk hlt => hgo k (by omega) (by omega) hlt)) (fun k hk => Or.inl hk.1)) l1 (Kd.F_mono (Kd.F_step (W1 := wy) (Kd.F_below G1.out hbt7) (fun k hk hlt => hgo k (by omega) (by omega) hlt)) (fun k hk => Or.inl hk.1)) l2 (Kd.F_mono (Kd.F_step (W1 := wy) (Kd.F_below G2.out hbt7) (fun k hk hlt => hgo k (by omega) (by omega) hlt)) (fun k hk => Or.inl hk.1)) l3 (Kd.F_mono (Kd.F_step (W1 := wy) (Kd.F_below G3.out hbt7) (fun k hk hlt => hgo k (by omega) (by omega) hlt)) (fun k hk => Or.inl hk.1)) h9 (Kd.F_mono (Kd.F_step (W1 := wy) (Kd.N_F HN9.out) (fun k hk hlt => hgo k hk.2 (by have := hk.1; omega) hlt)) (fun k hk => Or.inr (by have := hk.1; omega))), hby⟩
    · have hv3 := Aside0.mk (hv2.out.trans (if_neg ce))
      have ce2 : earlyB (s.f2.getD n 0) now (s.f0.getD n z44).f2 = false := by simpa using ce
      go_wp2_with fail
      refine (police_Note.ok A0 c0 s.f0 A2 c2 s.f2 n now w4 (Kd.F_now (Kd.F_below G0.out hbC)) (Kd.F_now (Kd.F_below G2.out hbC)) l2 l0 HP.out hnl hwb.1 hwb.2 ce2).mono ?_; rintro e w5 ⟨v5, rfl, hP5, hb5⟩
      clear ce ce2
      have hRB5 := blk_below hRB4.out hb5
      have hbD := below_step hbC hb5
      have hB5 := blk_below hB4 hb5
      have hN5 := Kd.N_below hN4 hb5
      have hX5 := Aside0.mk (blk_below hX4.out hb5)
      clear hN4 hB4 x0 x1 x2 x3 x4
      obtain ⟨x0, x1, x2, x3, x4⟩ := bx5 hX5.out
      by_cases cf : 32 ≤ s.f3.length
      · have hv := Aside0.mk (hv3.out.trans (if_pos cf))
        have cf2 : (32 : Int) ≤ (s.f3.length : Int) := by omega
        go_wp2_with fail
        refine (book_note.calls w3.heap.size g lv s.f4 now 3 n _ _ _ _ _ w5 (Nat.le_trans hb4.size hb5.size) hg hB5 hN5).mono ?_
        rintro e w7 ⟨rfl, lv7, hB7, hN7, hb7, hk7, hr7⟩
        have hRBt := (hb7.block _ (by omega)).trans hRB5
        have hbt7 := Below.trans hbD (Below.mono hb7 (by omega))
        have hst7 : w3.heap.size ≤ w7.heap.size := Nat.le_trans (Nat.le_trans hb4.size hb5.size) hk7.1
        obtain ⟨A9, c9, rfl⟩ := Kd.N_slice hN7
        have h9 := (Kd.N_reads' hN7).2.1
        have HN9 := Aside0.mk (Kd.N_mono (ok' := fun k => w3.heap.size ≤ k ∧ k ≠ g) (N_tight flat38 hN7) (fun k hk => ⟨Kd.N_base hN7 k hk.symm, hN7.1 k hk.symm⟩))
        clear hN7
        go_wp2_with fail
        refine (hand_state.calls w3.heap.size g _ _ _ _ _ _ _ _ _ _ _ _ _ _ _ _ _ _ now w7 hst7 hg hB7).mono ?_
        rintro e wz ⟨rfl, hbs2, hks2⟩
        have hRBz := (hbs2.block _ (by omega)).trans hRBt
        have hbz := Below.trans hbt7 (Below.mono hbs2 (by omega))
        go_wp2_with ((with_reducible refine gate_store (t := 80) (p := 8) (v := .tmp 84) rfl ?_); refine stB (w0 := w) (base := w.heap.size) (seg := [.slice A0 s.f0.length c0, .slice (some ad) s.f1.length c1, .slice A2 s.f2.length c2, .slice A3 s.f3.length c3, .slice A9 (noteL s.f4 now 3 n).length c9]) (cs' := [.slice A0 s.f0.length c0, .slice (some ad) s.f1.length c1, .slice A2 s.f2.length c2, .slice A3 s.f3.length c3, .slice A9 (noteL s.f4 now 3 n).length c9]) hRBz hbz (by omega) (h := fun wy hBy hby hgy => ?_))
        (try simp only [Exit.inBlock, Exit.then])
        refine bodyPost_ret (results_list (rs := [.cell 8 80, .tmp 9]) rfl (by simp) (.cell _ 80 _ (0, 0) _ rfl hBy Tryz.underlying80 rfl (by kernel_rfl) (.tmp .nil))) rfl ?_
        have hgo : ∀ k, k ≠ g → k ≠ w.heap.size + 1 → k < w7.heap.size → wy.heap[k]? = w7.heap[k]? := fun k h1 h2 hlt => (hgy.block k (Nat.lt_of_lt_of_le hlt hks2.1) (fun he => h2 (Option.some.inj he))).trans (hks2.2 k hlt h1)
        refine ⟨_, by rw [hv.out]; rfl, by rw [hv.out]; exact k80_mkF wy (nw ok w) ⟨s.f0, s.f1, s.f2, s.f3, noteL s.f4 now 3 n⟩ l0 (Kd.F_mono (Kd.F_step (W1 := wy) (Kd.F_below G0.out hbt7) (fun k hk hlt => hgo k (by omega) (by omega) hlt)) (fun k hk => Or.inl hk.1)) l1 (Kd.F_mono (Kd.F_step (W1 := wy) (Kd.F_below G1.out hbt7) (fun k hk hlt => hgo k (by omega) (by omega) hlt)) (fun k hk => Or.inl hk.1)) l2 (Kd.F_mono (Kd.F_step (W1 := wy) (Kd.F_below G2.out hbt7) (fun k hk hlt => hgo k (by omega) (by omega) hlt)) (fun k hk => Or.inl hk.1)) l3 (Kd.F_mono (Kd.F_step (W1 := wy) (Kd.F_below G3.out hbt7) (fun k hk hlt => hgo k (by omega) (by omega) hlt)) (fun k hk => Or.inl hk.1)) h9 (Kd.F_mono (Kd.F_step (W1 := wy) (Kd.N_F HN9.out) (fun k hk hlt => hgo k hk.2 (by have := hk.1; omega) hlt)) (fun k hk => Or.inr (by have := hk.1; omega))), hby⟩
      · have hv := Aside0.mk (hv3.out.trans (if_neg cf))
        have cf2 : ¬ (32 : Int) ≤ (s.f3.length : Int) := by omega
        generalize hls : s.f2.set n now = ls2 at hP5
        have hls2 : ls2.length = s.f0.length := by rw [← hls, List.length_set]; exact HL2.out
        have hv := Aside0.mk (hv.out.trans (by rw [hls]))
        have HLS := Aside0.mk hls2
        clear hls hls2
        obtain ⟨A5, c5, rfl⟩ := Kd.N_slice hP5
        have hp5 := (Kd.N_reads' hP5).2.1
        have HP5 := Aside0.mk (Kd.N_mono (ok' := fun k => w4.heap.size ≤ k) (N_tight flatI hP5) (fun k hk => Kd.N_base hP5 k hk.symm))
        clear hP5
        have hbE := Below.trans hb4 (Below.mono hb5 hb4.size)
        have hs45 := hb5.size
        have hs34 := hb4.size
        go_wp2_with ((with_reducible refine gate_store (t := 33) (p := 89) (v := .tmp 86) rfl ?_); refine stB (w0 := w3) (base := w3.heap.size) (seg := [.slice A5 ls2.length c5]) (cs' := [lv, .int .i64 now, .slice A0 s.f0.length c0, .slice (some ad) s.f1.length c1, .slice A5 ls2.length c5, .slice A3 s.f3.length c3, .slice A4 s.f4.length c4]) hB5 hbE hg (h := fun w6 hB6 hb6 hg6 => ?_))
        have hX6 := blk_grown hX5.out hg6 (fun he => by have := Option.some.inj he; omega)
        have hRB6 := Aside0.mk (blk_grown hRB5 hg6 (fun he => by have := Option.some.inj he; omega))
        have HP6 := Aside0.mk (Kd.N_grown HP5.out hg6 (fun k hk he => by have := Option.some.inj he; omega))
        have HN6 := Aside0.mk (Kd.N_grown hN5 hg6 (fun k hk he => hk (Option.some.inj he)))
        have hbF := Below.trans hbB (Below.mono hb6 (by omega))
        have hT6 := Kd.F_below G0.out hbF
        have G36 := Aside0.mk (Kd.F_below G3.out hbF)
        have hgl6 := blk_lt hB6
        have hs6 := hg6.size
        obtain ⟨adt, Ax, cx, t, hA0, ht, -, e1, -, -, -, -⟩ := el44 (Kd.F_now hT6) n hnl
        have htb : 0 ≤ t.f1 ∧ t.f1 ≤ 200 := by
          have h1 := taskR_own (taskA_task (polR_iff.1 HP.out).1 hnl)
          rw [ht.out] at h1
          omega
        have HW1 := Aside0.mk (show wrap64 (now + t.f1) = now + t.f1 from w64 (by omega) (by omega))
        have htg : s.f0.getD n z44 = t := by rw [List.getD_eq_getElem?_getD, List.getElem?_eq_getElem hnl, Option.getD_some, ht.out]
        have hv4 := Aside0.mk (hv.out.trans (by rw [htg]))
        clear hv ht htg hT6
        subst hA0
        clear x0 x1 x2 x3 x4
        obtain ⟨x0, x1, x2, x3, x4⟩ := bx5 hX6
        have hw1 := HW1.out
        refine st_ 23 (fun w' => Below w6.heap.size w6 w' ∧ w'.cell? (⟨w.heap.size, 3, none⟩) = some (.slice A3 s.f3.length c3) ∧ w'.cell? (⟨w.heap.size, 0, none⟩) = some (.slice (some adt) s.f0.length c0) ∧ w'.cell? (⟨(adt.add (n * 4)).block, (adt.add (n * 4)).off + 1, none⟩) = some (.int .i64 t.f1)) [22] part_Release.tab14 part_Release.bits14 ⟨below_drew1 bl0, x3, x0, e1⟩ (h := fun HT HW hHeld => ?_)
        repeat (first | refine pn_ HT (h := ?_) | refine tn_ HT HW hHeld (h := ?_) | refine zn_ HT (h := ?_))
        clear hw1
        refine join_ (σ := (Nat × Nat) × (Option Addr × Nat)) 5 #[true, true, true, true, true, true, true, true, true, true, true, true, true, true, true, true, true, true, false, false, false, false, false] (fun q => [(91, .slice (some ⟨q.1.1, 0, none⟩) 0 0), (94, .slice q.2.1 s.f3.length q.2.2), (107, .slice (some ⟨q.1.2, 0, none⟩) 1 1)])
          (fun q w' => Below w6.heap.size w6 w' ∧ Kd.N k182 182 w' w6.heap.size (fun k => k < w.heap.size ∨ w6.heap.size ≤ k) (.slice q.2.1 s.f3.length q.2.2) s.f3 ∧ Kd.F k182 w' (fun k => k = q.1.2 ∧ some k ≠ (Value.slice q.2.1 s.f3.length q.2.2).ownBlock) (some ⟨q.1.2, 0, none⟩) 1 [⟨n, now, now + t.f1, want, 0, false⟩] ∧ w6.heap.size ≤ q.1.2) (fun q w' hF => ?_) (fun HJN => ?_)
        rotate_left
        · refine tw_ 1 17 HT (h1 := fun K hK => ?_) (h2 := fun K hK => ?_)
          · have hz6 : w6.drew.heap.size = w6.heap.size := rfl
            refine ev_ (w1 := w6.drew.alloc (.cells #[] 182)) (v := .slice (some ⟨w6.drew.heap.size, 0, none⟩) 0 0) (by go_simp; done) ?_
            have hN0 := N_empty (d := k182) w6.drew w6.heap.size (fun k => k < w.heap.size ∨ w6.heap.size ≤ k) 182 (hHeld.1).size (Or.inr (hHeld.1).size)
            refine hK.out _ _ ⟨below_alloc (hHeld.1) _, al_cell (hHeld.2.1) _, al_cell (hHeld.2.2.1) _, al_cell (hHeld.2.2.2) _⟩ (fun hHeld => ?_)
            refine nm_ (h := ?_)
            repeat (first | refine pn_ HT (h := ?_) | refine tn_ HT HW hHeld (h := ?_) | refine zn_ HT (h := ?_))
            refine tw_ 4 17 HT (h1 := fun K hK => ?_) (h2 := fun K hK => ?_)
            · refine apNR_step row182 (w0 := w6) hN0 (Kd.F_below G36.out (hHeld.1)) (fun k hk => ⟨Or.inl hk.2, ne_own hN0 (by have := hk.2; omega)⟩) (fun k hk => Or.inr (Nat.le_trans (Below.size (hHeld.1)) hk)) (hHeld.1) (hHeld.1).size (by show 0 + s.f3.length ≤ 100000; omega) (h := fun v7 w7 hN7 hb7 hg7 hat7 => ?_)
              rw [List.nil_append] at hN7
              refine hK.out _ _ ⟨hb7, be_cell hb7 x3, be_cell hb7 x0, be_cell hb7 e1⟩ (fun hHeld => ?_)
              refine nm_ (h := ?_)
              obtain ⟨A7, c7, rfl⟩ := Kd.N_slice hN7
              repeat (first | refine pn_ HT (h := ?_) | refine tn_ HT HW hHeld (h := ?_) | refine zn_ HT (h := ?_))
              refine on_ HT (h := fun K hK => ?_)
              refine ev_ (w1 := w7.alloc (.cells #[.int .i64 n, .int .i64 now, .int .i64 (now + t.f1), .int .i64 want, .int .i64 0, .bool false] 182)) (v := .slice (some ⟨w7.heap.size, 0, none⟩) 1 1) (by go_simp; done) ?_
              have hNL := N_one (d := k182) (okp := fun _ => False) (ok := fun k => k = w7.heap.size) (x := ⟨n, now, now + t.f1, want, 0, false⟩) (c := [.int .i64 n, .int .i64 now, .int .i64 (now + t.f1), .int .i64 want, .int .i64 0, .bool false]) w7 w6.heap.size 182 (hHeld.1).size (k182_mkF _ _ _) (fun _ h => h.elim) rfl
              refine hK.out _ _ ⟨below_alloc (hHeld.1) _, al_cell (hHeld.2.1) _, al_cell (hHeld.2.2.1) _, al_cell (hHeld.2.2.2) _⟩ (fun hHeld => ?_)
              refine norm_ ?_ (HJN ((w6.drew.heap.size, w7.heap.size), (A7, c7)) _ ⟨(hHeld.1), Kd.N_alloc hN7 _, Kd.F_mono (Kd.N_F hNL) (fun k hk => ⟨hk, fun he => by have := Kd.N_lt hN7 k he.symm; omega⟩), (by have := (hHeld.1).size; rw [alsz] at this; have := hb7.size; omega)⟩)
              simp only [putAll, Act.put, sbA, sbB, sbC]
            · refine ev_ (w1 := (w6.drew.alloc (.cells #[] 182)).alloc (.cells #[.int .i64 n, .int .i64 now, .int .i64 (now + t.f1), .int .i64 want, .int .i64 0, .bool false] 182)) (v := .slice (some ⟨(w6.drew.alloc (.cells #[] 182)).heap.size, 0, none⟩) 1 1) (by go_simp; done) ?_
              have hNL := N_one (d := k182) (okp := fun _ => False) (ok := fun k => k = (w6.drew.alloc (.cells #[] 182)).heap.size) (x := ⟨n, now, now + t.f1, want, 0, false⟩) (c := [.int .i64 n, .int .i64 now, .int .i64 (now + t.f1), .int .i64 want, .int .i64 0, .bool false]) (w6.drew.alloc (.cells #[] 182)) w6.heap.size 182 (hHeld.1).size (k182_mkF _ _ _) (fun _ h => h.elim) rfl
              refine hK.out _ _ ⟨below_alloc (hHeld.1) _, al_cell (hHeld.2.1) _, al_cell (hHeld.2.2.1) _, al_cell (hHeld.2.2.2) _⟩ (fun hHeld => ?_)
              refine nm_ (h := ?_)
              have hN0 := Kd.N_alloc hN0 (.cells #[.int .i64 n, .int .i64 now, .int .i64 (now + t.f1), .int .i64 want, .int .i64 0, .bool false] 182)
              repeat (first | refine pn_ HT (h := ?_) | refine tn_ HT HW hHeld (h := ?_) | refine zn_ HT (h := ?_))
              refine on_ HT (h := fun K hK => ?_)
              refine apNR_step row182 (w0 := w6) hN0 (Kd.F_below G36.out (hHeld.1)) (fun k hk => ⟨Or.inl hk.2, ne_own hN0 (by have := hk.2; omega)⟩) (fun k hk => Or.inr (Nat.le_trans (Below.size (hHeld.1)) hk)) (hHeld.1) (hHeld.1).size (by show 0 + s.f3.length ≤ 100000; omega) (h := fun v7 w7 hN7 hb7 hg7 hat7 => ?_)
              rw [List.nil_append] at hN7
              refine hK.out _ _ ⟨hb7, be_cell hb7 x3, be_cell hb7 x0, be_cell hb7 e1⟩ (fun hHeld => ?_)
              refine nm_ (h := ?_)
              obtain ⟨A7, c7, rfl⟩ := Kd.N_slice hN7
              have hNL7 := Kd.N_grown hNL hg7 (fun k hk he => by have h1 := Option.some.inj he; rw [hk] at h1; revert h1; simp only [alsz]; omega)
              refine norm_ ?_ (HJN ((w6.drew.heap.size, (w6.drew.alloc (.cells #[] 182)).heap.size), (A7, c7)) _ ⟨(hHeld.1), hN7, Kd.F_mono (Kd.N_F hNL7) (fun k hk => ⟨hk, fun he => ?_⟩), (by simp only [alsz]; omega)⟩)
              · simp only [putAll, Act.put, sbA, sbB, sbC]
              · rcases hat7 with h1 | ⟨b, h1, h2⟩
                · rw [h1] at he; have h3 := Option.some.inj he; rw [hk] at h3; revert h3; simp only [alsz]; omega
                · rw [h1] at he; have h3 := Option.some.inj he; rw [hk] at h3; revert h3 h2; simp only [alsz]; omega
          · have hz6 : w6.drew.heap.size = w6.heap.size := rfl
            refine ev_ (w1 := w6.drew.alloc (.cells #[.int .i64 n, .int .i64 now, .int .i64 (now + t.f1), .int .i64 want, .int .i64 0, .bool false] 182)) (v := .slice (some ⟨w6.drew.heap.size, 0, none⟩) 1 1) (by go_simp; done) ?_
            have hNL := N_one (d := k182) (okp := fun _ => False) (ok := fun k => k = w6.drew.heap.size) (x := ⟨n, now, now + t.f1, want, 0, false⟩) (c := [.int .i64 n, .int .i64 now, .int .i64 (now + t.f1), .int .i64 want, .int .i64 0, .bool false]) w6.drew w6.heap.size 182 (hHeld.1).size (k182_mkF _ _ _) (fun _ h => h.elim) rfl
            refine hK.out _ _ ⟨below_alloc (hHeld.1) _, al_cell (hHeld.2.1) _, al_cell (hHeld.2.2.1) _, al_cell (hHeld.2.2.2) _⟩ (fun hHeld => ?_)
            refine nm_ (h := ?_)
            have hNL := Kd.N_alloc hNL (.cells #[] 182)
            repeat (first | refine pn_ HT (h := ?_) | refine tn_ HT HW hHeld (h := ?_) | refine zn_ HT (h := ?_))
            refine on_ HT (h := fun K hK => ?_)
            refine ev_ (w1 := (w6.drew.alloc (.cells #[.int .i64 n, .int .i64 now, .int .i64 (now + t.f1), .int .i64 want, .int .i64 0, .bool false] 182)).alloc (.cells #[] 182)) (v := .slice (some ⟨(w6.drew.alloc (.cells #[.int .i64 n, .int .i64 now, .int .i64 (now + t.f1), .int .i64 want, .int .i64 0, .bool false] 182)).heap.size, 0, none⟩) 0 0) (by go_simp; done) ?_
            have hN0 := N_empty (d := k182) (w6.drew.alloc (.cells #[.int .i64 n, .int .i64 now, .int .i64 (now + t.f1), .int .i64 want, .int .i64 0, .bool false] 182)) w6.heap.size (fun k => k < w.heap.size ∨ w6.heap.size ≤ k) 182 (hHeld.1).size (Or.inr (hHeld.1).size)
            refine hK.out _ _ ⟨below_alloc (hHeld.1) _, al_cell (hHeld.2.1) _, al_cell (hHeld.2.2.1) _, al_cell (hHeld.2.2.2) _⟩ (fun hHeld => ?_)
            refine nm_ (h := ?_)
            repeat (first | refine pn_ HT (h := ?_) | refine tn_ HT HW hHeld (h := ?_) | refine zn_ HT (h := ?_))
            refine on_ HT (h := fun K hK => ?_)
            refine apNR_step row182 (w0 := w6) hN0 (Kd.F_below G36.out (hHeld.1)) (fun k hk => ⟨Or.inl hk.2, ne_own hN0 (by have := hk.2; omega)⟩) (fun k hk => Or.inr (Nat.le_trans (Below.size (hHeld.1)) hk)) (hHeld.1) (hHeld.1).size (by show 0 + s.f3.length ≤ 100000; omega) (h := fun v7 w7 hN7 hb7 hg7 hat7 => ?_)
            rw [List.nil_append] at hN7
            refine hK.out _ _ ⟨hb7, be_cell hb7 x3, be_cell hb7 x0, be_cell hb7 e1⟩ (fun hHeld => ?_)
            refine nm_ (h := ?_)
            obtain ⟨A7, c7, rfl⟩ := Kd.N_slice hN7
            have hNL7 := Kd.N_grown hNL hg7 (fun k hk he => by have h1 := Option.some.inj he; rw [hk] at h1; revert h1; simp only [alsz]; omega)
            refine norm_ ?_ (HJN (((w6.drew.alloc (.cells #[.int .i64 n, .int .i64 now, .int .i64 (now + t.f1), .int .i64 want, .int .i64 0, .bool false] 182)).heap.size, w6.drew.heap.size), (A7, c7)) _ ⟨(hHeld.1), hN7, Kd.F_mono (Kd.N_F hNL7) (fun k hk => ⟨hk, fun he => ?_⟩), (by simp only [alsz]; omega)⟩)
            · simp only [putAll, Act.put, sbA, sbB, sbC]
            · rcases hat7 with h1 | ⟨b, h1, h2⟩
              · rw [h1] at he; have h3 := Option.some.inj he; rw [hk] at h3; revert h3; simp only [alsz]; omega
              · rw [h1] at he; have h3 := Option.some.inj he; rw [hk] at h3; revert h3 h2; simp only [alsz]; omega
        · obtain ⟨⟨gA, gL⟩, A7, c7⟩ := q
          obtain ⟨hbH, hN7, hL7, hgL⟩ := hF
          dsimp only at hbH hN7 hL7 hgL ⊢
          refine norm_ (by (simp only [putAll, Act.put, sbA, sbB, sbC]; rfl)) ?_
          repeat (first | refine pn_ HT (h := ?_) | refine tn_ HT HW hHeld (h := ?_) | refine zn_ HT (h := ?_))
          refine on_ HT (h := fun K hK => ?_)
          refine apNR_step row182 (w0 := w6) hN7 hL7 (fun k hk => ⟨Or.inr (by have := hk.1; omega), hk.2⟩) (fun k hk => Or.inr (Nat.le_trans (Below.size hbH) hk)) hbH hbH.size (by show s.f3.length + 1 ≤ 100000; omega) (h := fun v8 w8 hN8 hb8 hg8 hat8 => ?_)
          refine hK.out _ _ ⟨hb8, be_cell hb8 x3, be_cell hb8 x0, be_cell hb8 e1⟩ (fun hHeld => ?_)
          refine nm_ (h := ?_)
          obtain ⟨A8, c8, rfl⟩ := Kd.N_slice hN8
          repeat (first | refine pn_ HT (h := ?_) | refine tn_ HT HW hHeld (h := ?_) | refine zn_ HT (h := ?_))
          generalize hjl : s.f3 ++ [(⟨n, now, now + t.f1, want, 0, false⟩ : S182)] = js8 at hN8
          have hv := Aside0.mk (hv4.out.trans (by rw [hjl]))
          have hc8 := (Kd.N_reads' hN8).2.1
          have HN8 := Aside0.mk (Kd.N_mono (ok' := fun k => w6.heap.size ≤ k) (N_tight flat182 hN8) (fun k hk => Kd.N_base hN8 k hk.symm))
          have hB8 := blk_below hB6 hb8
          have hbI := Below.trans hb6 (Below.mono hb8 (by omega))
          have HN8b := Aside0.mk (Kd.N_below HN6.out hb8)
          have HP8 := Aside0.mk (Kd.N_below HP6.out hb8)
          clear hN8 hN7 hL7 hjl hv4
          refine ln_ HT (h := fun K hK => ?_)
          refine stB_step (w0 := w3) (base := w3.heap.size) (seg := [.slice A8 js8.length c8]) (cs' := [lv, .int .i64 now, .slice (some adt) s.f0.length c0, .slice (some ad) s.f1.length c1, .slice A5 ls2.length c5, .slice A8 js8.length c8, .slice A4 s.f4.length c4]) hB8 hbI hg (h := fun w9 hB9 hb9 hg9 => ?_)
          refine hK.out _ _ ?_
          repeat (first | refine pn_ HT (h := ?_) | refine zn_ HT (h := ?_))
          refine dn_ HT (h := ?_)
          clear HT HW hHeld
          have hs8 := hb8.size
          have hs9 := hg9.size
          have HN9b := Aside0.mk (Kd.N_grown HN8b.out hg9 (fun k hk he => hk (Option.some.inj he)))
          have HP9 := Aside0.mk (Kd.N_grown HP8.out hg9 (fun k hk he => by have := Option.some.inj he; omega))
          have HJ9 := Aside0.mk (Kd.N_grown HN8.out hg9 (fun k hk he => by have := Option.some.inj he; omega))
          have hRB9 := blk_grown (blk_below hRB6.out hb8) hg9 (fun he => by have := Option.some.inj he; omega)
          have hbK := Below.trans hbB (Below.mono hb9 (by omega))
          go_wp2_with fail
          refine (book_note.calls w3.heap.size g lv s.f4 now 1 n _ _ _ _ _ w9 (by omega) hg hB9 HN9b.out).mono ?_
          rintro e w7 ⟨rfl, lv7, hB7, hN7, hb7, hk7, hr7⟩
          have hRBt := (hb7.block _ (by omega)).trans hRB9
          have hbt7 := Below.trans hbK (Below.mono hb7 (by omega))
          have hst7 : w3.heap.size ≤ w7.heap.size := by have := hk7.1; omega
          have HP7 := Aside0.mk (Kd.N_kept HP9.out hk7 (fun k hk hS => hS.elim (fun h => by omega) (fun h => by have := hlv4 k h; omega)))
          have HJ7 := Aside0.mk (Kd.N_kept HJ9.out hk7 (fun k hk hS => hS.elim (fun h => by omega) (fun h => by have := hlv4 k h; omega)))
          obtain ⟨A9, c9, rfl⟩ := Kd.N_slice hN7
          have h9 := (Kd.N_reads' hN7).2.1
          have HN9 := Aside0.mk (Kd.N_mono (ok' := fun k => w3.heap.size ≤ k ∧ k ≠ g) (N_tight flat38 hN7) (fun k hk => ⟨Kd.N_base hN7 k hk.symm, hN7.1 k hk.symm⟩))
          clear hN7
          go_wp2_with fail
          refine (hand_state.calls w3.heap.size g _ _ _ _ _ _ _ _ _ _ _ _ _ _ _ _ _ _ now w7 hst7 hg hB7).mono ?_
          rintro e wz ⟨rfl, hbs2, hks2⟩
          have hRBz := (hbs2.block _ (by omega)).trans hRBt
          have hbz := Below.trans hbt7 (Below.mono hbs2 (by omega))
          go_wp2_with ((with_reducible refine gate_store (t := 80) (p := 8) (v := .tmp 118) rfl ?_); refine stB (w0 := w) (base := w.heap.size) (seg := [.slice (some adt) s.f0.length c0, .slice (some ad) s.f1.length c1, .slice A5 ls2.length c5, .slice A8 js8.length c8, .slice A9 (noteL s.f4 now 1 n).length c9]) (cs' := [.slice (some adt) s.f0.length c0, .slice (some ad) s.f1.length c1, .slice A5 ls2.length c5, .slice A8 js8.length c8, .slice A9 (noteL s.f4 now 1 n).length c9]) hRBz hbz (by omega) (h := fun wy hBy hby hgy => ?_))
          (try simp only [Exit.inBlock, Exit.then])
          refine bodyPost_ret (results_list (rs := [.cell 8 80, .tmp 9]) rfl (by simp) (.cell _ 80 _ (0, 0) _ rfl hBy Tryz.underlying80 rfl (by kernel_rfl) (.tmp .nil))) rfl ?_
          have hgo : ∀ k, k ≠ g → k ≠ w.heap.size + 1 → k < w7.heap.size → wy.heap[k]? = w7.heap[k]? := fun k h1 h2 hlt => (hgy.block k (Nat.lt_of_lt_of_le hlt hks2.1) (fun he => h2 (Option.some.inj he))).trans (hks2.2 k hlt h1)
          refine ⟨_, by rw [hv.out]; rfl, by rw [hv.out]; exact k80_mkF wy (nw ok w) ⟨s.f0, s.f1, ls2, js8, noteL s.f4 now 1 n⟩ l0 (Kd.F_mono (Kd.F_step (W1 := wy) (Kd.F_below G0.out hbt7) (fun k hk hlt => hgo k (by omega) (by omega) hlt)) (fun k hk => Or.inl hk.1)) l1 (Kd.F_mono (Kd.F_step (W1 := wy) (Kd.F_below G1.out hbt7) (fun k hk hlt => hgo k (by omega) (by omega) hlt)) (fun k hk => Or.inl hk.1)) hp5 (Kd.F_mono (Kd.F_step (W1 := wy) (Kd.N_F HP7.out) (fun k hk hlt => hgo k (by omega) (by omega) hlt)) (fun k hk => Or.inr (by omega))) hc8 (Kd.F_mono (Kd.F_step (W1 := wy) (Kd.N_F HJ7.out) (fun k hk hlt => hgo k (by omega) (by omega) hlt)) (fun k hk => Or.inr (by omega))) h9 (Kd.F_mono (Kd.F_step (W1 := wy) (Kd.N_F HN9.out) (fun k hk hlt => hgo k hk.2 (by have := hk.1; omega) hlt)) (fun k hk => Or.inr (by have := hk.1; omega))), hby⟩
end Go.Proofs.YtmngaagojkihbaaGreat.FTop
