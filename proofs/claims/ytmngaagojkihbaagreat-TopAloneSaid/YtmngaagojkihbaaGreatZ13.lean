/- Contracts of functions that the statement TopAlone reaches, and plain lemmas. No condition. -/
import Derived.Test.YtmngaagojkihbaaGreatZ12
namespace Go.Proofs.YtmngaagojkihbaaGreat.FTop
open Go.RowKit Go.Proofs.YtmngaagojkihbaaGreatW.PrintWords Go.Proofs.YtmngaagojkihbaaGreatW.PrintLast Go.Proofs.YtmngaagojkihbaaGreatW.PrintMore
attribute [local go_sem] max2_int min2_int max_two min_two
set_option linter.unusedVariables false
set_option linter.unusedSimpArgs false
set_option maxHeartbeats 8000000
set_option maxRecDepth 100000
def admit_Add.T1 : Bool × List (List Nat × List Nat) := (true, [([], []), ([], []), ([1], [1]), ([0, 2], [0, 2]), ([], []), ([4], [4]), ([3, 5, 3], [3, 5]), ([6, 6, 0, 1, 2, 3, 4, 5, 6], [6])])
def admit_Add.B1 : List Nat := [0, 0, 2, 7, 0, 16, 63, 127]
theorem admit_Add.tab1 : rtab .any (opsOf Tryz.f62 1) = admit_Add.T1 := by kernel_rfl
theorem admit_Add.bits1 : waitsOk admit_Add.T1.2 admit_Add.B1 = true := by kernel_rfl
def admit_Add.T2 : Bool × List (List Nat × List Nat) := (true, [([], []), ([0], [0]), ([1, 1], [1]), ([2], [2]), ([3, 2, 2], [2, 3]), ([2, 4], [2, 4]), ([5, 4], [5]), ([6], [6]), ([7, 6, 6], [6, 7]), ([6, 8], [6, 8]), ([9, 8], [9]), ([], []), ([11], [11]), ([12], [12]), ([13], [13]), ([14, 10], [14]), ([], []), ([16], [16]), ([17, 15], [17]), ([18], [18]), ([19, 18], [19]), ([], []), ([], []), ([21, 22, 20], [21, 22]), ([10, 15, 20, 23], [10, 15, 20, 23]), ([24, 23], [24]), ([25, 25, 0, 1, 2, 3, 4, 5, 6, 7, 8, 9, 10, 11, 12, 13, 14, 15, 16, 17, 18, 19, 20, 21, 22, 23, 24, 25], [25])])
def admit_Add.B2 : List Nat := [0, 1, 3, 7, 15, 31, 63, 127, 255, 511, 1023, 0, 2048, 6144, 14336, 32767, 0, 65536, 262143, 524287, 1048575, 0, 0, 8388607, 16777215, 33554431, 67108863]
theorem admit_Add.tab2 : rtab .any (opsOf Tryz.f62 2) = admit_Add.T2 := by kernel_rfl
theorem admit_Add.bits2 : waitsOk admit_Add.T2.2 admit_Add.B2 = true := by kernel_rfl
def addE (s : S80) (f : S85) (t : S44) : Int := firstE [unE (taskR t) 1, unE (decide ((s.f0.length : Int) < 8)) 3, unE (decide (firstI s.f3 true < 0)) 9, fitE (s.f0 ++ [t]) f]
def addAP (s : S80) (f : S85) (t : S44) : S80 × Int := if addE s f t = 0 then (addP s t, 0) else (s, addE s f t)
theorem addE_ok {s : S80} {f : S85} {t : S44} (h : addE s f t = 0) : taskR t = true ∧ s.f0.length < 8 := by
  unfold addE at h
  unfold unE at h
  cases h1 : taskR t with
  | false => rw [h1] at h; exact absurd h (by simp [firstE])
  | true =>
    refine ⟨rfl, ?_⟩
    by_cases h2 : (s.f0.length : Int) < 8
    · omega
    · rw [h1, decide_eq_false h2] at h; exact absurd h (by simp [firstE])
theorem taskA_snoc {l : List S44} {t : S44} (h : taskA l = true) (ht : taskR t = true) (hl : l.length < 8) : taskA (l ++ [t]) = true := by
  unfold taskA at h ⊢
  rw [Bool.and_eq_true, List.all_eq_true, decide_eq_true_iff] at h ⊢
  refine ⟨fun x hx => ?_, by rw [List.length_append, List.length_singleton]; omega⟩
  rcases List.mem_append.1 hx with hx | hx
  · exact h.1 x hx
  · rw [List.mem_singleton.1 hx]; exact ht
theorem admit_Add.calls (s : S80) (cs : List Value) (f : S85) (t : S44) (ct : List Value) (ok : Nat → Prop) (w : World) (h : Kd.FK k80 w ok s cs) (ht : Kd.FK k44 w ok t ct) (hR : partR s = true) (hf : supR f = true) :
    Calls Tryz.prog 62 #[.agg cs.toArray, vF f, .agg ct.toArray] w fun e w' => ∃ cs', e = .returned (.tuple #[.agg cs'.toArray, .int .i64 (addAP s f t).2]) ∧ Kd.FK k80 w' (nw ok w) (addAP s f t).1 cs' ∧ Below w.heap.size w w' := by
  have hu := Tryz.underlying80
  have hu2 := Tryz.underlying44
  have hu3 := Tryz.underlying85
  obtain ⟨hR1, hR2, hR3, hR4⟩ := partR_iff.1 hR
  have hR6 : s.f0.length ≤ 8 := by have := (polR_iff.1 hR2).1; unfold taskA at this; rw [Bool.and_eq_true] at this; exact of_decide_eq_true this.2
  have HTA := Aside0.mk (polR_iff.1 hR2).1
  have HR := Aside0.mk hR
  have HF1 := Aside0.mk hf
  have hsR : ∀ W, Ret 45 #[vF f] W (.bool true) := fun W => by have := supply_Right.calls f W; rwa [hf] at this
  obtain ⟨A0, c0, A1, c1, A2, c2, A3, c3, A4, c4, rfl, l0, g0, l1, g1, l2, g2, l3, g3, l4, g4⟩ := k80_openF h
  obtain ⟨AS, dS, rfl, lS, gS⟩ := k44_openF ht
  have hpR : ∀ W, Below w.heap.size w W → Ret 55 #[.agg #[.slice A0 s.f0.length c0, .slice A1 s.f1.length c1, .slice A2 s.f2.length c2, .slice A3 s.f3.length c3, .slice A4 s.f4.length c4]] W (.bool true) := fun W hW => by have := part_Right.calls s [.slice A0 s.f0.length c0, .slice A1 s.f1.length c1, .slice A2 s.f2.length c2, .slice A3 s.f3.length c3, .slice A4 s.f4.length c4] ok W (Kd.FK_below h hW); rwa [hR] at this
  have H := Aside0.mk h
  have HTT := Aside0.mk ht
  have G0 := Aside0.mk (Kd.F_bound g0)
  have G3 := Aside0.mk (Kd.F_bound g3)
  have GS := Aside0.mk (Kd.F_bound gS)
  clear h ht hR1 hR2 hR3 hR4 hR hf g0 g1 g2 g3 g4 gS
  have hz1 : (w.alloc (.cells #[.slice A0 s.f0.length c0, .slice A1 s.f1.length c1, .slice A2 s.f2.length c2, .slice A3 s.f3.length c3, .slice A4 s.f4.length c4] 80)).heap.size = w.heap.size + 1 := alsz
  have hz2 : ((w.alloc (.cells #[.slice A0 s.f0.length c0, .slice A1 s.f1.length c1, .slice A2 s.f2.length c2, .slice A3 s.f3.length c3, .slice A4 s.f4.length c4] 80)).alloc (.cells #[.int .i64 f.f0, .int .i64 f.f1] 85)).heap.size = w.heap.size + 2 := by rw [alsz, hz1]
  have hz3 : (((w.alloc (.cells #[.slice A0 s.f0.length c0, .slice A1 s.f1.length c1, .slice A2 s.f2.length c2, .slice A3 s.f3.length c3, .slice A4 s.f4.length c4] 80)).alloc (.cells #[.int .i64 f.f0, .int .i64 f.f1] 85)).alloc (.cells #[.int .i64 t.f0, .int .i64 t.f1, .int .i64 t.f2, .slice AS t.f3.length dS] 44)).heap.size = w.heap.size + 3 := by rw [alsz, hz2]
  have hz4 : ((((w.alloc (.cells #[.slice A0 s.f0.length c0, .slice A1 s.f1.length c1, .slice A2 s.f2.length c2, .slice A3 s.f3.length c3, .slice A4 s.f4.length c4] 80)).alloc (.cells #[.int .i64 f.f0, .int .i64 f.f1] 85)).alloc (.cells #[.int .i64 t.f0, .int .i64 t.f1, .int .i64 t.f2, .slice AS t.f3.length dS] 44)).alloc (.cells #[.slice none 0 0, .slice none 0 0, .slice none 0 0, .slice none 0 0, .slice none 0 0] 80)).heap.size = w.heap.size + 4 := by rw [alsz, hz3]
  have hB0 := blk_al (blk_al (blk_al (blk_new w (.cells #[.slice A0 s.f0.length c0, .slice A1 s.f1.length c1, .slice A2 s.f2.length c2, .slice A3 s.f3.length c3, .slice A4 s.f4.length c4] 80)) (.cells #[.int .i64 f.f0, .int .i64 f.f1] 85)) (.cells #[.int .i64 t.f0, .int .i64 t.f1, .int .i64 t.f2, .slice AS t.f3.length dS] 44)) (.cells #[.slice none 0 0, .slice none 0 0, .slice none 0 0, .slice none 0 0, .slice none 0 0] 80)
  have hF0 := blk_al (blk_al (blk_new (w.alloc (.cells #[.slice A0 s.f0.length c0, .slice A1 s.f1.length c1, .slice A2 s.f2.length c2, .slice A3 s.f3.length c3, .slice A4 s.f4.length c4] 80)) (.cells #[.int .i64 f.f0, .int .i64 f.f1] 85)) (.cells #[.int .i64 t.f0, .int .i64 t.f1, .int .i64 t.f2, .slice AS t.f3.length dS] 44)) (.cells #[.slice none 0 0, .slice none 0 0, .slice none 0 0, .slice none 0 0, .slice none 0 0] 80)
  have hT0 := blk_al (blk_new ((w.alloc (.cells #[.slice A0 s.f0.length c0, .slice A1 s.f1.length c1, .slice A2 s.f2.length c2, .slice A3 s.f3.length c3, .slice A4 s.f4.length c4] 80)).alloc (.cells #[.int .i64 f.f0, .int .i64 f.f1] 85)) (.cells #[.int .i64 t.f0, .int .i64 t.f1, .int .i64 t.f2, .slice AS t.f3.length dS] 44)) (.cells #[.slice none 0 0, .slice none 0 0, .slice none 0 0, .slice none 0 0, .slice none 0 0] 80)
  have hRB := blk_new (((w.alloc (.cells #[.slice A0 s.f0.length c0, .slice A1 s.f1.length c1, .slice A2 s.f2.length c2, .slice A3 s.f3.length c3, .slice A4 s.f4.length c4] 80)).alloc (.cells #[.int .i64 f.f0, .int .i64 f.f1] 85)).alloc (.cells #[.int .i64 t.f0, .int .i64 t.f1, .int .i64 t.f2, .slice AS t.f3.length dS] 44)) (.cells #[.slice none 0 0, .slice none 0 0, .slice none 0 0, .slice none 0 0, .slice none 0 0] 80)
  rw [hz1] at hF0
  rw [hz2] at hT0
  rw [hz3] at hRB
  have hb := below_alloc (@bl3 w (.cells #[.slice A0 s.f0.length c0, .slice A1 s.f1.length c1, .slice A2 s.f2.length c2, .slice A3 s.f3.length c3, .slice A4 s.f4.length c4] 80) (.cells #[.int .i64 f.f0, .int .i64 f.f1] 85) (.cells #[.int .i64 t.f0, .int .i64 t.f1, .int .i64 t.f2, .slice AS t.f3.length dS] 44)) (.cells #[.slice none 0 0, .slice none 0 0, .slice none 0 0, .slice none 0 0, .slice none 0 0] 80)
  go_enter Tryz.func62, Tryz.ntmps62
  go_wp2
  generalize ((((w.alloc (.cells #[.slice A0 s.f0.length c0, .slice A1 s.f1.length c1, .slice A2 s.f2.length c2, .slice A3 s.f3.length c3, .slice A4 s.f4.length c4] 80)).alloc (.cells #[.int .i64 f.f0, .int .i64 f.f1] 85)).alloc (.cells #[.int .i64 t.f0, .int .i64 t.f1, .int .i64 t.f2, .slice AS t.f3.length dS] 44)).alloc (.cells #[.slice none 0 0, .slice none 0 0, .slice none 0 0, .slice none 0 0, .slice none 0 0] 80)) = w6 at hB0 hF0 hT0 hRB hz4 hb ⊢
  clear hz1 hz2 hz3
  obtain ⟨x0, x1, x2, x3, x4⟩ := bx5 hB0
  obtain ⟨z0, z1, z2, z3⟩ := bx4 hT0
  have GS6 := Aside0.mk (Kd.F_below GS.out hb)
  have G06 := Aside0.mk (Kd.F_below G0.out hb)
  refine st_ 8 (fun w' => Below w6.heap.size w6 w' ∧ w'.cell? (⟨w.heap.size, 0, none⟩) = some (.slice A0 s.f0.length c0) ∧ w'.cell? (⟨w.heap.size + 1 + 1, 0, none⟩) = some (.int .i64 t.f0) ∧ w'.cell? (⟨w.heap.size + 1 + 1, 1, none⟩) = some (.int .i64 t.f1) ∧ w'.cell? (⟨w.heap.size + 1 + 1, 2, none⟩) = some (.int .i64 t.f2) ∧ w'.cell? (⟨w.heap.size + 1 + 1, 3, none⟩) = some (.slice AS t.f3.length dS)) [6] admit_Add.tab1 admit_Add.bits1 ⟨below_drew1 bl0, x0, z0, z1, z2, z3⟩ (h := fun HT HW hHeld => ?_)
  repeat (first | refine pn_ HT (h := ?_) | refine tn_ HT HW hHeld (h := ?_) | refine zn_ HT (h := ?_))
  refine join_ (σ := (Nat × Nat) × (Option Addr × Nat)) 2 #[true, true, true, true, true, true, false, false] (fun q => [(10, .slice (some ⟨q.1.1, 0, none⟩) 0 0), (13, .slice q.2.1 s.f0.length q.2.2), (15, .slice (some ⟨q.1.2, 0, none⟩) 1 1)])
    (fun q w' => Below w6.heap.size w6 w' ∧ Kd.N k44 44 w' w6.heap.size (fun k => k < w.heap.size ∨ w.heap.size + 4 ≤ k) (.slice q.2.1 s.f0.length q.2.2) s.f0 ∧ Kd.F k44 w' (fun k => (k < w.heap.size ∨ k = q.1.2) ∧ some k ≠ (Value.slice q.2.1 s.f0.length q.2.2).ownBlock) (some ⟨q.1.2, 0, none⟩) 1 [t] ∧ w6.heap.size ≤ q.1.2) (fun q w' hF => ?_) (fun HJN => ?_)
  rotate_left
  · have hz6 : w6.drew.heap.size = w6.heap.size := rfl
    refine tw_ 0 5 HT (h1 := fun K hK => ?_) (h2 := fun K hK => ?_)
    · refine ev_ (w1 := w6.drew.alloc (.cells #[] 44)) (v := .slice (some ⟨w6.drew.heap.size, 0, none⟩) 0 0) (by go_simp; done) ?_
      have hN0 := N_empty (d := k44) w6.drew w6.heap.size (fun k => k < w.heap.size ∨ w.heap.size + 4 ≤ k) 44 (hHeld.1).size (Or.inr (by have := (hHeld.1).size; omega))
      refine hK.out _ _ ⟨below_alloc (hHeld.1) _, al_cell (hHeld.2.1) _, al_cell (hHeld.2.2.1) _, al_cell (hHeld.2.2.2.1) _, al_cell (hHeld.2.2.2.2.1) _, al_cell (hHeld.2.2.2.2.2) _⟩ (fun hHeld => ?_)
      refine nm_ (h := ?_)
      repeat (first | refine pn_ HT (h := ?_) | refine tn_ HT HW hHeld (h := ?_) | refine zn_ HT (h := ?_))
      refine tw_ 3 5 HT (h1 := fun K hK => ?_) (h2 := fun K hK => ?_)
      · refine apNR_step row44 (w0 := w6) hN0 (Kd.F_below G06.out (hHeld.1)) (fun k hk => ⟨Or.inl hk.2, ne_own hN0 (by have := hk.2; omega)⟩) (fun k hk => Or.inr (by have := Below.size (hHeld.1); omega)) (hHeld.1) (hHeld.1).size (by show 0 + s.f0.length ≤ 100000; omega) (h := fun v7 w7 hN7 hb7 hg7 hat7 => ?_)
        rw [List.nil_append] at hN7
        refine hK.out _ _ ⟨hb7, be_cell hb7 x0, be_cell hb7 z0, be_cell hb7 z1, be_cell hb7 z2, be_cell hb7 z3⟩ (fun hHeld => ?_)
        refine nm_ (h := ?_)
        obtain ⟨A7, c7, rfl⟩ := Kd.N_slice hN7
        repeat (first | refine pn_ HT (h := ?_) | refine tn_ HT HW hHeld (h := ?_) | refine zn_ HT (h := ?_))
        refine on_ HT (h := fun K hK => ?_)
        refine ev_ (w1 := w7.alloc (.cells #[.int .i64 t.f0, .int .i64 t.f1, .int .i64 t.f2, .slice AS t.f3.length dS] 44)) (v := .slice (some ⟨w7.heap.size, 0, none⟩) 1 1) (by go_simp; done) ?_
        have hNL := N_one (d := k44) (okp := fun k => k < w.heap.size) (ok := fun k => k < w.heap.size ∨ k = w7.heap.size) (x := t) (c := [.int .i64 t.f0, .int .i64 t.f1, .int .i64 t.f2, .slice AS t.f3.length dS]) w7 w6.heap.size 44 (hHeld.1).size (k44_mkF _ _ t lS (Kd.F_mono (Kd.F_below GS6.out (hHeld.1)) (fun k hk => hk.2))) (fun _ h => Or.inl h) (Or.inr rfl)
        refine hK.out _ _ ⟨below_alloc (hHeld.1) _, al_cell (hHeld.2.1) _, al_cell (hHeld.2.2.1) _, al_cell (hHeld.2.2.2.1) _, al_cell (hHeld.2.2.2.2.1) _, al_cell (hHeld.2.2.2.2.2) _⟩ (fun hHeld => ?_)
        refine norm_ ?_ (HJN ((w6.drew.heap.size, w7.heap.size), (A7, c7)) _ ⟨(hHeld.1), Kd.N_alloc hN7 _, Kd.F_mono (Kd.N_F hNL) (fun k hk => ⟨hk, fun he => hk.elim (fun h => by have := Kd.N_base hN7 k he.symm; omega) (fun h => by have := Kd.N_lt hN7 k he.symm; omega)⟩), (by have := (hHeld.1).size; rw [alsz] at this; have := hb7.size; omega)⟩)
        simp only [putAll, Act.put, sbA, sbB, sbC]
      · refine ev_ (w1 := (w6.drew.alloc (.cells #[] 44)).alloc (.cells #[.int .i64 t.f0, .int .i64 t.f1, .int .i64 t.f2, .slice AS t.f3.length dS] 44)) (v := .slice (some ⟨(w6.drew.alloc (.cells #[] 44)).heap.size, 0, none⟩) 1 1) (by go_simp; done) ?_
        have hNL := N_one (d := k44) (okp := fun k => k < w.heap.size) (ok := fun k => k < w.heap.size ∨ k = (w6.drew.alloc (.cells #[] 44)).heap.size) (x := t) (c := [.int .i64 t.f0, .int .i64 t.f1, .int .i64 t.f2, .slice AS t.f3.length dS]) (w6.drew.alloc (.cells #[] 44)) w6.heap.size 44 (hHeld.1).size (k44_mkF _ _ t lS (Kd.F_mono (Kd.F_below GS6.out (hHeld.1)) (fun k hk => hk.2))) (fun _ h => Or.inl h) (Or.inr rfl)
        refine hK.out _ _ ⟨below_alloc (hHeld.1) _, al_cell (hHeld.2.1) _, al_cell (hHeld.2.2.1) _, al_cell (hHeld.2.2.2.1) _, al_cell (hHeld.2.2.2.2.1) _, al_cell (hHeld.2.2.2.2.2) _⟩ (fun hHeld => ?_)
        refine nm_ (h := ?_)
        have hN0 := Kd.N_alloc hN0 (.cells #[.int .i64 t.f0, .int .i64 t.f1, .int .i64 t.f2, .slice AS t.f3.length dS] 44)
        repeat (first | refine pn_ HT (h := ?_) | refine tn_ HT HW hHeld (h := ?_) | refine zn_ HT (h := ?_))
        refine on_ HT (h := fun K hK => ?_)
        refine apNR_step row44 (w0 := w6) hN0 (Kd.F_below G06.out (hHeld.1)) (fun k hk => ⟨Or.inl hk.2, ne_own hN0 (by have := hk.2; omega)⟩) (fun k hk => Or.inr (by have := Below.size (hHeld.1); omega)) (hHeld.1) (hHeld.1).size (by show 0 + s.f0.length ≤ 100000; omega) (h := fun v7 w7 hN7 hb7 hg7 hat7 => ?_)
        rw [List.nil_append] at hN7
        refine hK.out _ _ ⟨hb7, be_cell hb7 x0, be_cell hb7 z0, be_cell hb7 z1, be_cell hb7 z2, be_cell hb7 z3⟩ (fun hHeld => ?_)
        refine nm_ (h := ?_)
        obtain ⟨A7, c7, rfl⟩ := Kd.N_slice hN7
        have hNL7 := Kd.N_grown hNL hg7 (fun k hk he => by have h1 := Option.some.inj he; revert hk; rw [h1]; simp only [alsz]; omega)
        refine norm_ ?_ (HJN ((w6.drew.heap.size, (w6.drew.alloc (.cells #[] 44)).heap.size), (A7, c7)) _ ⟨(hHeld.1), hN7, Kd.F_mono (Kd.N_F hNL7) (fun k hk => ⟨hk, fun he => ?_⟩), (by simp only [alsz]; omega)⟩)
        · simp only [putAll, Act.put, sbA, sbB, sbC]
        · rcases hat7 with h1 | ⟨b, h1, h2⟩
          · rw [h1] at he; have h3 := Option.some.inj he; revert hk; rw [h3]; simp only [alsz]; omega
          · rw [h1] at he; have h3 := Option.some.inj he; revert hk h2; rw [← h3]; simp only [alsz]; omega
    · refine ev_ (w1 := w6.drew.alloc (.cells #[.int .i64 t.f0, .int .i64 t.f1, .int .i64 t.f2, .slice AS t.f3.length dS] 44)) (v := .slice (some ⟨w6.drew.heap.size, 0, none⟩) 1 1) (by go_simp; done) ?_
      have hNL := N_one (d := k44) (okp := fun k => k < w.heap.size) (ok := fun k => k < w.heap.size ∨ k = w6.drew.heap.size) (x := t) (c := [.int .i64 t.f0, .int .i64 t.f1, .int .i64 t.f2, .slice AS t.f3.length dS]) w6.drew w6.heap.size 44 (hHeld.1).size (k44_mkF _ _ t lS (Kd.F_mono (Kd.F_below GS6.out (hHeld.1)) (fun k hk => hk.2))) (fun _ h => Or.inl h) (Or.inr rfl)
      refine hK.out _ _ ⟨below_alloc (hHeld.1) _, al_cell (hHeld.2.1) _, al_cell (hHeld.2.2.1) _, al_cell (hHeld.2.2.2.1) _, al_cell (hHeld.2.2.2.2.1) _, al_cell (hHeld.2.2.2.2.2) _⟩ (fun hHeld => ?_)
      refine nm_ (h := ?_)
      have hNL := Kd.N_alloc hNL (.cells #[] 44)
      repeat (first | refine pn_ HT (h := ?_) | refine tn_ HT HW hHeld (h := ?_) | refine zn_ HT (h := ?_))
      refine on_ HT (h := fun K hK => ?_)
      refine ev_ (w1 := (w6.drew.alloc (.cells #[.int .i64 t.f0, .int .i64 t.f1, .int .i64 t.f2, .slice AS t.f3.length dS] 44)).alloc (.cells #[] 44)) (v := .slice (some ⟨(w6.drew.alloc (.cells #[.int .i64 t.f0, .int .i64 t.f1, .int .i64 t.f2, .slice AS t.f3.length dS] 44)).heap.size, 0, none⟩) 0 0) (by go_simp; done) ?_
      have hN0 := N_empty (d := k44) (w6.drew.alloc (.cells #[.int .i64 t.f0, .int .i64 t.f1, .int .i64 t.f2, .slice AS t.f3.length dS] 44)) w6.heap.size (fun k => k < w.heap.size ∨ w.heap.size + 4 ≤ k) 44 (hHeld.1).size (Or.inr (by have := (hHeld.1).size; omega))
      refine hK.out _ _ ⟨below_alloc (hHeld.1) _, al_cell (hHeld.2.1) _, al_cell (hHeld.2.2.1) _, al_cell (hHeld.2.2.2.1) _, al_cell (hHeld.2.2.2.2.1) _, al_cell (hHeld.2.2.2.2.2) _⟩ (fun hHeld => ?_)
      refine nm_ (h := ?_)
      repeat (first | refine pn_ HT (h := ?_) | refine tn_ HT HW hHeld (h := ?_) | refine zn_ HT (h := ?_))
      refine on_ HT (h := fun K hK => ?_)
      refine apNR_step row44 (w0 := w6) hN0 (Kd.F_below G06.out (hHeld.1)) (fun k hk => ⟨Or.inl hk.2, ne_own hN0 (by have := hk.2; omega)⟩) (fun k hk => Or.inr (by have := Below.size (hHeld.1); omega)) (hHeld.1) (hHeld.1).size (by show 0 + s.f0.length ≤ 100000; omega) (h := fun v7 w7 hN7 hb7 hg7 hat7 => ?_)
      rw [List.nil_append] at hN7
      refine hK.out _ _ ⟨hb7, be_cell hb7 x0, be_cell hb7 z0, be_cell hb7 z1, be_cell hb7 z2, be_cell hb7 z3⟩ (fun hHeld => ?_)
      refine nm_ (h := ?_)
      obtain ⟨A7, c7, rfl⟩ := Kd.N_slice hN7
      have hNL7 := Kd.N_grown hNL hg7 (fun k hk he => by have h1 := Option.some.inj he; revert hk; rw [h1]; simp only [alsz]; omega)
      refine norm_ ?_ (HJN (((w6.drew.alloc (.cells #[.int .i64 t.f0, .int .i64 t.f1, .int .i64 t.f2, .slice AS t.f3.length dS] 44)).heap.size, w6.drew.heap.size), (A7, c7)) _ ⟨(hHeld.1), hN7, Kd.F_mono (Kd.N_F hNL7) (fun k hk => ⟨hk, fun he => ?_⟩), (by simp only [alsz]; omega)⟩)
      · simp only [putAll, Act.put, sbA, sbB, sbC]
      · rcases hat7 with h1 | ⟨b, h1, h2⟩
        · rw [h1] at he; have h3 := Option.some.inj he; revert hk; rw [h3]; simp only [alsz]; omega
        · rw [h1] at he; have h3 := Option.some.inj he; revert hk h2; rw [← h3]; simp only [alsz]; omega
  · obtain ⟨⟨gA, gL⟩, A7, c7⟩ := q
    obtain ⟨hbH, hN7, hL7, hgL⟩ := hF
    dsimp only at hbH hN7 hL7 hgL ⊢
    refine norm_ (by (simp only [putAll, Act.put, sbA, sbB, sbC]; rfl)) ?_
    repeat (first | refine pn_ HT (h := ?_) | refine tn_ HT HW hHeld (h := ?_) | refine zn_ HT (h := ?_))
    refine ln_ HT (h := fun K hK => ?_)
    refine apNR_step row44 (w0 := w6) hN7 hL7 (fun k hk => ⟨hk.1.elim Or.inl (fun h => Or.inr (by omega)), hk.2⟩) (fun k hk => Or.inr (by have := Below.size hbH; omega)) hbH hbH.size (by show s.f0.length + 1 ≤ 100000; omega) (h := fun v8 w8 hN8 hb8 hg8 hat8 => ?_)
    refine hK.out _ _ ?_
    refine nm_ (h := ?_)
    obtain ⟨A8, c8, rfl⟩ := Kd.N_slice hN8
    repeat (first | refine pn_ HT (h := ?_) | refine zn_ HT (h := ?_))
    refine dn_ HT (h := ?_)
    have hall : (s.f0 ++ [t]).length = s.f0.length + 1 := by simp
    have HN8 := Aside0.mk hN8
    have hb8w := Below.trans hb (Below.mono hb8 (by omega))
    have hB8 := blk_below hB0 hb8
    have hF8 := blk_below hF0 hb8
    have hT8 := blk_below hT0 hb8
    have hR8 := blk_below hRB hb8
    have hs8 := hb8.size
    have hv := Aside0.mk (show firstE [unE (taskR t) 1, unE (decide ((s.f0.length : Int) < 8)) 3, unE (decide (firstI s.f3 true < 0)) 9, fitE (s.f0 ++ [t]) f] = addE s f t from rfl)
    clear x0 x1 x2 x3 x4 z0 z1 z2 z3 hB0 hF0 hT0 hRB hN8 hN7 hL7 HT HW hHeld
    obtain ⟨x0, x1, x2, x3, x4⟩ := bx5 hB8
    obtain ⟨y0, y1⟩ := bx2 hF8
    obtain ⟨z0, z1, z2, z3⟩ := bx4 hT8
    go_wp2
    refine st_ 27 (fun w' => Below w8.heap.size w8 w' ∧ w'.cell? (⟨w.heap.size, 0, none⟩) = some (.slice A0 s.f0.length c0) ∧ w'.cell? (⟨w.heap.size, 1, none⟩) = some (.slice A1 s.f1.length c1) ∧ w'.cell? (⟨w.heap.size, 2, none⟩) = some (.slice A2 s.f2.length c2) ∧ w'.cell? (⟨w.heap.size, 3, none⟩) = some (.slice A3 s.f3.length c3) ∧ w'.cell? (⟨w.heap.size, 4, none⟩) = some (.slice A4 s.f4.length c4) ∧ w'.cell? (⟨w.heap.size + 1, 0, none⟩) = some (.int .i64 f.f0) ∧ w'.cell? (⟨w.heap.size + 1, 1, none⟩) = some (.int .i64 f.f1) ∧ w'.cell? (⟨w.heap.size + 2, 0, none⟩) = some (.int .i64 t.f0) ∧ w'.cell? (⟨w.heap.size + 2, 1, none⟩) = some (.int .i64 t.f1) ∧ w'.cell? (⟨w.heap.size + 2, 2, none⟩) = some (.int .i64 t.f2) ∧ w'.cell? (⟨w.heap.size + 2, 3, none⟩) = some (.slice AS t.f3.length dS)) [25] admit_Add.tab2 admit_Add.bits2 ⟨below_drew1 bl0, x0, x1, x2, x3, x4, y0, y1, z0, z1, z2, z3⟩ (h := fun HT HW hHeld => ?_)
    repeat (first | refine pn_ HT (h := ?_) | refine tn_ HT HW hHeld (h := ?_) | refine zn_ HT (h := ?_))
    refine oc_ HT ((hpR _ (Below.trans hb8w (Below.mono (hHeld.1) (by omega))))) (hS := fun w3 hb3 => ⟨below_step (hHeld.1) hb3, be_cell hb3 (hHeld.2.1), be_cell hb3 (hHeld.2.2.1), be_cell hb3 (hHeld.2.2.2.1), be_cell hb3 (hHeld.2.2.2.2.1), be_cell hb3 (hHeld.2.2.2.2.2.1), be_cell hb3 (hHeld.2.2.2.2.2.2.1), be_cell hb3 (hHeld.2.2.2.2.2.2.2.1), be_cell hb3 (hHeld.2.2.2.2.2.2.2.2.1), be_cell hb3 (hHeld.2.2.2.2.2.2.2.2.2.1), be_cell hb3 (hHeld.2.2.2.2.2.2.2.2.2.2.1), be_cell hb3 (hHeld.2.2.2.2.2.2.2.2.2.2.2)⟩) (h := fun w3 hb3 hHeld => ?_)
    repeat (first | refine pn_ HT (h := ?_) | refine tn_ HT HW hHeld (h := ?_) | refine zn_ HT (h := ?_))
    refine oc_ HT ((hsR _)) (hS := fun w3 hb3 => ⟨below_step (hHeld.1) hb3, be_cell hb3 (hHeld.2.1), be_cell hb3 (hHeld.2.2.1), be_cell hb3 (hHeld.2.2.2.1), be_cell hb3 (hHeld.2.2.2.2.1), be_cell hb3 (hHeld.2.2.2.2.2.1), be_cell hb3 (hHeld.2.2.2.2.2.2.1), be_cell hb3 (hHeld.2.2.2.2.2.2.2.1), be_cell hb3 (hHeld.2.2.2.2.2.2.2.2.1), be_cell hb3 (hHeld.2.2.2.2.2.2.2.2.2.1), be_cell hb3 (hHeld.2.2.2.2.2.2.2.2.2.2.1), be_cell hb3 (hHeld.2.2.2.2.2.2.2.2.2.2.2)⟩) (h := fun w3 hb3 hHeld => ?_)
    repeat (first | refine pn_ HT (h := ?_) | refine tn_ HT HW hHeld (h := ?_) | refine zn_ HT (h := ?_))
    refine oc_ HT ((task_Right.calls t AS dS _ (Kd.F_now (Kd.F_below GS.out (Below.trans hb8w (Below.mono (hHeld.1) (by omega))))) lS)) (hS := fun w3 hb3 => ⟨below_step (hHeld.1) hb3, be_cell hb3 (hHeld.2.1), be_cell hb3 (hHeld.2.2.1), be_cell hb3 (hHeld.2.2.2.1), be_cell hb3 (hHeld.2.2.2.2.1), be_cell hb3 (hHeld.2.2.2.2.2.1), be_cell hb3 (hHeld.2.2.2.2.2.2.1), be_cell hb3 (hHeld.2.2.2.2.2.2.2.1), be_cell hb3 (hHeld.2.2.2.2.2.2.2.2.1), be_cell hb3 (hHeld.2.2.2.2.2.2.2.2.2.1), be_cell hb3 (hHeld.2.2.2.2.2.2.2.2.2.2.1), be_cell hb3 (hHeld.2.2.2.2.2.2.2.2.2.2.2)⟩) (h := fun w3 hb3 hHeld => ?_)
    repeat (first | refine pn_ HT (h := ?_) | refine tn_ HT HW hHeld (h := ?_) | refine zn_ HT (h := ?_))
    refine on_ HT (h := fun K hK => ?_)
    refine cn_ ((admit_unless.calls (taskR t) 1 _).mono (fun e w' ⟨fv, he, h1, h2⟩ => ⟨_, he, h1, h2⟩)) (R := fun v w' => Asks w' v (unE (taskR t) 1) ∧ Below _ _ w') (h := fun vu1 wu1 hvu => ?_)
    obtain ⟨hau, hb3⟩ := hvu
    have hbs1 := hb3
    obtain ⟨fn1, cp1, rfl, hn1, hc1⟩ := hau
    have ha1 : Asks wu1 (.func (.func fn1) #[] cp1) (unE (taskR t) 1) := ⟨fn1, cp1, rfl, hn1, hc1⟩
    clear hn1 hc1
    have hbq1 : Below w8.heap.size w8 wu1 := Below.trans (hHeld.1) (Below.mono hb3 (hHeld.1).size)
    refine hK.out _ _ ⟨below_step (hHeld.1) hb3, be_cell hb3 (hHeld.2.1), be_cell hb3 (hHeld.2.2.1), be_cell hb3 (hHeld.2.2.2.1), be_cell hb3 (hHeld.2.2.2.2.1), be_cell hb3 (hHeld.2.2.2.2.2.1), be_cell hb3 (hHeld.2.2.2.2.2.2.1), be_cell hb3 (hHeld.2.2.2.2.2.2.2.1), be_cell hb3 (hHeld.2.2.2.2.2.2.2.2.1), be_cell hb3 (hHeld.2.2.2.2.2.2.2.2.2.1), be_cell hb3 (hHeld.2.2.2.2.2.2.2.2.2.2.1), be_cell hb3 (hHeld.2.2.2.2.2.2.2.2.2.2.2)⟩ (fun hHeld => ?_)
    refine nm_ (h := ?_)
    repeat (first | refine pn_ HT (h := ?_) | refine tn_ HT HW hHeld (h := ?_) | refine zn_ HT (h := ?_))
    refine on_ HT (h := fun K hK => ?_)
    refine cn_ ((admit_unless.calls (decide ((s.f0.length : Int) < 8)) 3 _).mono (fun e w' ⟨fv, he, h1, h2⟩ => ⟨_, he, h1, h2⟩)) (R := fun v w' => Asks w' v (unE (decide ((s.f0.length : Int) < 8)) 3) ∧ Below _ _ w') (h := fun vu2 wu2 hvu => ?_)
    obtain ⟨hau, hb3⟩ := hvu
    have hbs2 := hb3
    obtain ⟨fn2, cp2, rfl, hn2, hc2⟩ := hau
    have ha2 : Asks wu2 (.func (.func fn2) #[] cp2) (unE (decide ((s.f0.length : Int) < 8)) 3) := ⟨fn2, cp2, rfl, hn2, hc2⟩
    clear hn2 hc2
    have hbq2 : Below w8.heap.size w8 wu2 := Below.trans (hHeld.1) (Below.mono hb3 (hHeld.1).size)
    refine hK.out _ _ ⟨below_step (hHeld.1) hb3, be_cell hb3 (hHeld.2.1), be_cell hb3 (hHeld.2.2.1), be_cell hb3 (hHeld.2.2.2.1), be_cell hb3 (hHeld.2.2.2.2.1), be_cell hb3 (hHeld.2.2.2.2.2.1), be_cell hb3 (hHeld.2.2.2.2.2.2.1), be_cell hb3 (hHeld.2.2.2.2.2.2.2.1), be_cell hb3 (hHeld.2.2.2.2.2.2.2.2.1), be_cell hb3 (hHeld.2.2.2.2.2.2.2.2.2.1), be_cell hb3 (hHeld.2.2.2.2.2.2.2.2.2.2.1), be_cell hb3 (hHeld.2.2.2.2.2.2.2.2.2.2.2)⟩ (fun hHeld => ?_)
    refine nm_ (h := ?_)
    repeat (first | refine pn_ HT (h := ?_) | refine tn_ HT HW hHeld (h := ?_) | refine zn_ HT (h := ?_))
    refine oc_ HT ((job_First.calls A3 c3 s.f3 true _ (Kd.F_now (Kd.F_below G3.out (Below.trans hb8w (Below.mono (hHeld.1) (by omega))))))) (hS := fun w3 hb3 => ⟨below_step (hHeld.1) hb3, be_cell hb3 (hHeld.2.1), be_cell hb3 (hHeld.2.2.1), be_cell hb3 (hHeld.2.2.2.1), be_cell hb3 (hHeld.2.2.2.2.1), be_cell hb3 (hHeld.2.2.2.2.2.1), be_cell hb3 (hHeld.2.2.2.2.2.2.1), be_cell hb3 (hHeld.2.2.2.2.2.2.2.1), be_cell hb3 (hHeld.2.2.2.2.2.2.2.2.1), be_cell hb3 (hHeld.2.2.2.2.2.2.2.2.2.1), be_cell hb3 (hHeld.2.2.2.2.2.2.2.2.2.2.1), be_cell hb3 (hHeld.2.2.2.2.2.2.2.2.2.2.2)⟩) (h := fun w3 hb3 hHeld => ?_)
    have hbqF : Below w8.heap.size w8 w3 := (hHeld.1)
    have hb23 : Below wu2.heap.size wu2 w3 := hb3
    have ha2 := Asks_below ha2 hb23
    repeat (first | refine pn_ HT (h := ?_) | refine tn_ HT HW hHeld (h := ?_) | refine zn_ HT (h := ?_))
    refine on_ HT (h := fun K hK => ?_)
    refine cn_ ((admit_unless.calls (decide (firstI s.f3 true < 0)) 9 _).mono (fun e w' ⟨fv, he, h1, h2⟩ => ⟨_, he, h1, h2⟩)) (R := fun v w' => Asks w' v (unE (decide (firstI s.f3 true < 0)) 9) ∧ Below _ _ w') (h := fun vu3 wu3 hvu => ?_)
    obtain ⟨hau, hb3⟩ := hvu
    have hbs3 := hb3
    obtain ⟨fn3, cp3, rfl, hn3, hc3⟩ := hau
    have ha3 : Asks wu3 (.func (.func fn3) #[] cp3) (unE (decide (firstI s.f3 true < 0)) 9) := ⟨fn3, cp3, rfl, hn3, hc3⟩
    clear hn3 hc3
    have hbq3 : Below w8.heap.size w8 wu3 := Below.trans (hHeld.1) (Below.mono hb3 (hHeld.1).size)
    refine hK.out _ _ ⟨below_step (hHeld.1) hb3, be_cell hb3 (hHeld.2.1), be_cell hb3 (hHeld.2.2.1), be_cell hb3 (hHeld.2.2.2.1), be_cell hb3 (hHeld.2.2.2.2.1), be_cell hb3 (hHeld.2.2.2.2.2.1), be_cell hb3 (hHeld.2.2.2.2.2.2.1), be_cell hb3 (hHeld.2.2.2.2.2.2.2.1), be_cell hb3 (hHeld.2.2.2.2.2.2.2.2.1), be_cell hb3 (hHeld.2.2.2.2.2.2.2.2.2.1), be_cell hb3 (hHeld.2.2.2.2.2.2.2.2.2.2.1), be_cell hb3 (hHeld.2.2.2.2.2.2.2.2.2.2.2)⟩ (fun hHeld => ?_)
    refine nm_ (h := ?_)
    repeat (first | refine pn_ HT (h := ?_) | refine tn_ HT HW hHeld (h := ?_) | refine zn_ HT (h := ?_))
    refine on_ HT (h := fun K hK => ?_)
    refine cn_ ((admit_fit.calls A8 c8 (s.f0 ++ [t]) f wu3 (by rw [hall]; exact hall ▸ (Kd.F_now (Kd.N_F (Kd.N_below HN8.out hbq3))))).mono (fun e w' ⟨cp, he, h1, h2⟩ => ⟨_, he, cp, rfl, h1, h2⟩)) (hrun := by rw [hall]; (go_simp; done)) (R := fun v w' => ∃ cp, v = .func (.func 90) #[] cp ∧ (taskA (s.f0 ++ [t]) = true → supR f = true → Asks w' (.func (.func 90) #[] cp) (fitE (s.f0 ++ [t]) f)) ∧ Below wu3.heap.size wu3 w') (h := fun vf wf hvf => ?_)
    obtain ⟨cp4, rfl, ha4, hb3⟩ := hvf
    have hbF : Below w8.heap.size w8 wf := Below.trans hbq3 (Below.mono hb3 hbq3.size)
    have ha1 := Asks_below (Asks_below (Asks_below (Asks_below ha1 hbs2) hb23) hbs3) hb3
    have ha2 := Asks_below (Asks_below ha2 hbs3) hb3
    have ha3 := Asks_below ha3 hb3
    refine hK.out _ _ ⟨below_step (hHeld.1) hb3, be_cell hb3 (hHeld.2.1), be_cell hb3 (hHeld.2.2.1), be_cell hb3 (hHeld.2.2.2.1), be_cell hb3 (hHeld.2.2.2.2.1), be_cell hb3 (hHeld.2.2.2.2.2.1), be_cell hb3 (hHeld.2.2.2.2.2.2.1), be_cell hb3 (hHeld.2.2.2.2.2.2.2.1), be_cell hb3 (hHeld.2.2.2.2.2.2.2.2.1), be_cell hb3 (hHeld.2.2.2.2.2.2.2.2.2.1), be_cell hb3 (hHeld.2.2.2.2.2.2.2.2.2.2.1), be_cell hb3 (hHeld.2.2.2.2.2.2.2.2.2.2.2)⟩ (fun hHeld => ?_)
    refine nm_ (h := ?_)
    repeat (first | refine pn_ HT (h := ?_) | refine tn_ HT HW hHeld (h := ?_) | refine zn_ HT (h := ?_))
    refine on_ HT (h := fun K hK => ?_)
    refine ev_ (w1 := (wf.alloc (.cells #[.func (.func fn1) #[] cp1, .func (.func fn2) #[] cp2, .func (.func fn3) #[] cp3, .func (.func 90) #[] cp4] 125))) (v := .slice (some ⟨wf.heap.size, 0, none⟩) 4 4) (by go_simp; done) ?_
    refine hK.out _ _ ⟨below_alloc (hHeld.1) _, al_cell (hHeld.2.1) _, al_cell (hHeld.2.2.1) _, al_cell (hHeld.2.2.2.1) _, al_cell (hHeld.2.2.2.2.1) _, al_cell (hHeld.2.2.2.2.2.1) _, al_cell (hHeld.2.2.2.2.2.2.1) _, al_cell (hHeld.2.2.2.2.2.2.2.1) _, al_cell (hHeld.2.2.2.2.2.2.2.2.1) _, al_cell (hHeld.2.2.2.2.2.2.2.2.2.1) _, al_cell (hHeld.2.2.2.2.2.2.2.2.2.2.1) _, al_cell (hHeld.2.2.2.2.2.2.2.2.2.2.2) _⟩ (fun hHeld => ?_)
    refine nm_ (h := ?_)
    have hBS := blk_new wf (.cells #[.func (.func fn1) #[] cp1, .func (.func fn2) #[] cp2, .func (.func fn3) #[] cp3, .func (.func 90) #[] cp4] 125)
    have hbS := below_alloc hbF (.cells #[.func (.func fn1) #[] cp1, .func (.func fn2) #[] cp2, .func (.func fn3) #[] cp3, .func (.func 90) #[] cp4] 125)
    have hAs : ∀ i (hi : i < ([.func (.func fn1) #[] cp1, .func (.func fn2) #[] cp2, .func (.func fn3) #[] cp3, .func (.func 90) #[] cp4] : List Value).length), (∀ j, j < i → ([unE (taskR t) 1, unE (decide ((s.f0.length : Int) < 8)) 3, unE (decide (firstI s.f3 true < 0)) 9, fitE (s.f0 ++ [t]) f] : List Int).getD j 0 = 0) → Asks (wf.alloc (.cells #[.func (.func fn1) #[] cp1, .func (.func fn2) #[] cp2, .func (.func fn3) #[] cp3, .func (.func 90) #[] cp4] 125)) ([.func (.func fn1) #[] cp1, .func (.func fn2) #[] cp2, .func (.func fn3) #[] cp3, .func (.func 90) #[] cp4] : List Value)[i] (([unE (taskR t) 1, unE (decide ((s.f0.length : Int) < 8)) 3, unE (decide (firstI s.f3 true < 0)) 9, fitE (s.f0 ++ [t]) f] : List Int).getD i 0) := fun i hi hz => by
      match i, hi with
      | 0, _ => exact Asks_below ha1 bl1
      | 1, _ => exact Asks_below ha2 bl1
      | 2, _ => exact Asks_below ha3 bl1
      | 3, _ =>
        have e1 : unE (taskR t) 1 = 0 := hz 0 (by omega)
        have e2 : unE (decide ((s.f0.length : Int) < 8)) 3 = 0 := hz 1 (by omega)
        have t1 : taskR t = true := by
          cases h1 : taskR t with
          | true => rfl
          | false => rw [h1] at e1; cases e1
        have t2 : s.f0.length < 8 := by
          by_cases h2 : (s.f0.length : Int) < 8
          · omega
          · rw [decide_eq_false h2] at e2; cases e2
        exact Asks_below (ha4 (taskA_snoc HTA.out t1 t2) HF1.out) bl1
    repeat (first | refine pn_ HT (h := ?_) | refine tn_ HT HW hHeld (h := ?_) | refine zn_ HT (h := ?_))
    refine ln_ HT (h := fun K hK => ?_)
    refine cn_ ((admit_first.calls [.func (.func fn1) #[] cp1, .func (.func fn2) #[] cp2, .func (.func fn3) #[] cp3, .func (.func 90) #[] cp4] [unE (taskR t) 1, unE (decide ((s.f0.length : Int) < 8)) 3, unE (decide (firstI s.f3 true < 0)) 9, fitE (s.f0 ++ [t]) f] wf.heap.size (wf.alloc (.cells #[.func (.func fn1) #[] cp1, .func (.func fn2) #[] cp2, .func (.func fn3) #[] cp3, .func (.func 90) #[] cp4] 125)) rfl (by simp) hBS hAs).mono (fun e w' ⟨he, h2⟩ => ⟨_, he, rfl, h2⟩)) (R := fun v w' => v = .int .i64 (firstE [unE (taskR t) 1, unE (decide ((s.f0.length : Int) < 8)) 3, unE (decide (firstI s.f3 true < 0)) 9, fitE (s.f0 ++ [t]) f]) ∧ Below (wf.alloc (.cells #[.func (.func fn1) #[] cp1, .func (.func fn2) #[] cp2, .func (.func fn3) #[] cp3, .func (.func 90) #[] cp4] 125)).heap.size (wf.alloc (.cells #[.func (.func fn1) #[] cp1, .func (.func fn2) #[] cp2, .func (.func fn3) #[] cp3, .func (.func 90) #[] cp4] 125)) w') (h := fun v9 w9 hv9 => ?_)
    obtain ⟨rfl, hb9⟩ := hv9
    rw [hv.out]
    refine hK.out _ _ ?_
    refine nm_ (h := ?_)
    repeat (first | refine pn_ HT (h := ?_) | refine zn_ HT (h := ?_))
    refine dn_ HT (h := ?_)
    have hbN := below_step hbS hb9
    clear HT HW hHeld hb9 ha1 ha2 ha3 ha4 hBS hbS hAs hbF
    have hB9 := blk_below hB8 hbN
    have hT9 := blk_below hT8 hbN
    have hR9 := blk_below hR8 hbN
    have hbw := Below.trans hb8w (Below.mono hbN (by omega))
    have hs9 := hbN.size
    clear x0 x1 x2 x3 x4 y0 y1 z0 z1 z2 z3 hB8 hF8 hT8 hR8
    have hok := fun (h : addE s f t = 0) => addE_ok h
    generalize hee : addE s f t = ee at hok ⊢
    have HEE := Aside0.mk hee
    clear hee
    obtain ⟨x0, x1, x2, x3, x4⟩ := bx5 hB9
    by_cases ce : ee = 0
    · have hv2 := Aside0.mk (show addAP s f t = (addP s t, 0) by unfold addAP; rw [HEE.out, if_pos ce])
      have hok2 := hok ce
      subst ce
      obtain ⟨z0, z1, z2, z3⟩ := bx4 hT9
      go_wp2_with fail
      refine (part_Add.calls s [.slice A0 s.f0.length c0, .slice A1 s.f1.length c1, .slice A2 s.f2.length c2, .slice A3 s.f3.length c3, .slice A4 s.f4.length c4] t [.int .i64 t.f0, .int .i64 t.f1, .int .i64 t.f2, .slice AS t.f3.length dS] (fun k => ok k ∧ k < w.heap.size) w9 (Kd.FK_below (Kd.FK_bound H.out) hbw) (Kd.FK_below (Kd.FK_bound HTT.out) hbw) HR.out hok2.1 hok2.2).mono ?_; rintro e wA ⟨cs', rfl, hFA, hbA⟩
      have HFA := Aside0.mk hFA
      obtain ⟨B0, d0, B1, d1, B2, d2, B3, d3, B4, d4, rfl, -, -, -, -, -, -, -, -, -, -⟩ := k80_openF hFA
      clear hFA
      have hRA := blk_below hR9 hbA
      have hbB := below_step hbw hbA
      go_wp2_with ((with_reducible refine gate_store (t := 80) (p := 6) (v := .tmp 50) rfl ?_); refine stB (w0 := w) (base := w.heap.size) (seg := [.slice B0 (addP s t).f0.length d0, .slice B1 (addP s t).f1.length d1, .slice B2 (addP s t).f2.length d2, .slice B3 (addP s t).f3.length d3, .slice B4 (addP s t).f4.length d4]) (cs' := [.slice B0 (addP s t).f0.length d0, .slice B1 (addP s t).f1.length d1, .slice B2 (addP s t).f2.length d2, .slice B3 (addP s t).f3.length d3, .slice B4 (addP s t).f4.length d4]) hRA hbB (by omega) (h := fun wy hBy hby hgy => ?_))
      (try simp only [Exit.inBlock, Exit.then])
      refine bodyPost_ret (results_list (rs := [.cell 6 80, .tmp 7]) rfl (by simp) (.cell _ 80 _ (0, 0) _ rfl hBy Tryz.underlying80 rfl (by kernel_rfl) (.tmp .nil))) rfl ?_
      refine ⟨_, by rw [hv2.out]; rfl, ?_, hby⟩
      rw [hv2.out]
      exact Kd.FK_mono (Kd.FK_grown HFA.out hgy (fun k hk he => by have h1 := Option.some.inj he; rcases hk with h | h <;> omega)) (fun k hk => hk.elim (fun h => Or.inl h.1) (fun h => Or.inr (by omega)))
    · have hv2 := Aside0.mk (show addAP s f t = (s, ee) by unfold addAP; rw [HEE.out, if_neg ce])
      have ce2 : (ee == 0) = false := by simpa using ce
      clear ce
      go_wp2_with ((with_reducible refine gate_store (t := 80) (p := 6) (v := .tmp 45) rfl ?_); refine stB (w0 := w) (base := w.heap.size) (seg := [.slice A0 s.f0.length c0, .slice A1 s.f1.length c1, .slice A2 s.f2.length c2, .slice A3 s.f3.length c3, .slice A4 s.f4.length c4]) (cs' := [.slice A0 s.f0.length c0, .slice A1 s.f1.length c1, .slice A2 s.f2.length c2, .slice A3 s.f3.length c3, .slice A4 s.f4.length c4]) hR9 hbw (by omega) (h := fun wy hBy hby hgy => ?_))
      (try simp only [Exit.inBlock, Exit.then])
      refine bodyPost_ret (results_list (rs := [.cell 6 80, .tmp 7]) rfl (by simp) (.cell _ 80 _ (0, 0) _ rfl hBy Tryz.underlying80 rfl (by kernel_rfl) (.tmp .nil))) rfl ?_
      refine ⟨_, by rw [hv2.out]; rfl, ?_, hby⟩
      rw [hv2.out]
      exact Kd.FK_mono (Kd.FK_below H.out hby) (fun k hk => Or.inl hk)
theorem partR_leave {s : S80} (h : partR s = true) (i : Int) : partR (leaveP s i).1 = true := by
  unfold leaveP
  split
  · exact h
  · split
    · exact h
    · obtain ⟨h1, h2, h3, h4⟩ := partR_iff.1 h
      exact partR_iff.2 ⟨by rw [← h1]; exact List.length_set, h2, h3, h4⟩
def changeP (s : S80) (f : S85) (i : Int) (t : S44) : S80 × Int :=
  if (leaveP s i).2 = 0 then (if (addAP (leaveP s i).1 f t).2 = 0 then ((addAP (leaveP s i).1 f t).1, 0) else (s, (addAP (leaveP s i).1 f t).2)) else (s, (leaveP s i).2)
theorem FKb {w : World} {ok : Nat → Prop} {s : S80} {cs : List Value} (h : Kd.FK k80 w ok s cs) (o : Obj) : Kd.FK k80 (w.alloc o) (fun k => ok k ∧ k < w.heap.size) s cs := Kd.FK_below (Kd.FK_bound h) bl1
theorem admit_Change.calls (s : S80) (cs : List Value) (f : S85) (i : Int) (t : S44) (ct : List Value) (ok : Nat → Prop) (w : World) (h : Kd.FK k80 w ok s cs) (ht : Kd.FK k44 w ok t ct) (hR : partR s = true) (hf : supR f = true) :
    Calls Tryz.prog 66 #[.agg cs.toArray, vF f, .int .i64 i, .agg ct.toArray] w fun e w' => ∃ cs', e = .returned (.tuple #[.agg cs'.toArray, .int .i64 (changeP s f i t).2]) ∧ Kd.FK k80 w' (nw ok w) (changeP s f i t).1 cs' ∧ Below w.heap.size w w' := by
  have hu := Tryz.underlying80
  have hu2 := Tryz.underlying44
  have hu3 := Tryz.underlying85
  have HR := Aside0.mk hR
  have HF1 := Aside0.mk hf
  have HPL := Aside0.mk (partR_leave hR i)
  obtain ⟨A0, c0, A1, c1, A2, c2, A3, c3, A4, c4, rfl, -, -, -, -, -, -, -, -, -, -⟩ := k80_openF h
  obtain ⟨AS, dS, rfl, lS, -⟩ := k44_openF ht
  have H := Aside0.mk h
  have HT := Aside0.mk (Kd.FK_bound ht)
  have HB := Aside0.mk (Kd.FK_bound h)
  clear h ht hR hf
  have hz1 : (w.alloc (.cells #[.slice A0 s.f0.length c0, .slice A1 s.f1.length c1, .slice A2 s.f2.length c2, .slice A3 s.f3.length c3, .slice A4 s.f4.length c4] 80)).heap.size = w.heap.size + 1 := alsz
  have hz2 : ((w.alloc (.cells #[.slice A0 s.f0.length c0, .slice A1 s.f1.length c1, .slice A2 s.f2.length c2, .slice A3 s.f3.length c3, .slice A4 s.f4.length c4] 80)).alloc (.cells #[.int .i64 f.f0, .int .i64 f.f1] 85)).heap.size = w.heap.size + 2 := by rw [alsz, hz1]
  have hz3 : (((w.alloc (.cells #[.slice A0 s.f0.length c0, .slice A1 s.f1.length c1, .slice A2 s.f2.length c2, .slice A3 s.f3.length c3, .slice A4 s.f4.length c4] 80)).alloc (.cells #[.int .i64 f.f0, .int .i64 f.f1] 85)).alloc (.cells #[.int .i64 t.f0, .int .i64 t.f1, .int .i64 t.f2, .slice AS t.f3.length dS] 44)).heap.size = w.heap.size + 3 := by rw [alsz, hz2]
  have hz4 : ((((w.alloc (.cells #[.slice A0 s.f0.length c0, .slice A1 s.f1.length c1, .slice A2 s.f2.length c2, .slice A3 s.f3.length c3, .slice A4 s.f4.length c4] 80)).alloc (.cells #[.int .i64 f.f0, .int .i64 f.f1] 85)).alloc (.cells #[.int .i64 t.f0, .int .i64 t.f1, .int .i64 t.f2, .slice AS t.f3.length dS] 44)).alloc (.cells #[.slice none 0 0, .slice none 0 0, .slice none 0 0, .slice none 0 0, .slice none 0 0] 80)).heap.size = w.heap.size + 4 := by rw [alsz, hz3]
  have hB0 := blk_al (blk_al (blk_al (blk_new w (.cells #[.slice A0 s.f0.length c0, .slice A1 s.f1.length c1, .slice A2 s.f2.length c2, .slice A3 s.f3.length c3, .slice A4 s.f4.length c4] 80)) (.cells #[.int .i64 f.f0, .int .i64 f.f1] 85)) (.cells #[.int .i64 t.f0, .int .i64 t.f1, .int .i64 t.f2, .slice AS t.f3.length dS] 44)) (.cells #[.slice none 0 0, .slice none 0 0, .slice none 0 0, .slice none 0 0, .slice none 0 0] 80)
  have hF0 := blk_al (blk_al (blk_new (w.alloc (.cells #[.slice A0 s.f0.length c0, .slice A1 s.f1.length c1, .slice A2 s.f2.length c2, .slice A3 s.f3.length c3, .slice A4 s.f4.length c4] 80)) (.cells #[.int .i64 f.f0, .int .i64 f.f1] 85)) (.cells #[.int .i64 t.f0, .int .i64 t.f1, .int .i64 t.f2, .slice AS t.f3.length dS] 44)) (.cells #[.slice none 0 0, .slice none 0 0, .slice none 0 0, .slice none 0 0, .slice none 0 0] 80)
  have hT0 := blk_al (blk_new ((w.alloc (.cells #[.slice A0 s.f0.length c0, .slice A1 s.f1.length c1, .slice A2 s.f2.length c2, .slice A3 s.f3.length c3, .slice A4 s.f4.length c4] 80)).alloc (.cells #[.int .i64 f.f0, .int .i64 f.f1] 85)) (.cells #[.int .i64 t.f0, .int .i64 t.f1, .int .i64 t.f2, .slice AS t.f3.length dS] 44)) (.cells #[.slice none 0 0, .slice none 0 0, .slice none 0 0, .slice none 0 0, .slice none 0 0] 80)
  have hRB := blk_new (((w.alloc (.cells #[.slice A0 s.f0.length c0, .slice A1 s.f1.length c1, .slice A2 s.f2.length c2, .slice A3 s.f3.length c3, .slice A4 s.f4.length c4] 80)).alloc (.cells #[.int .i64 f.f0, .int .i64 f.f1] 85)).alloc (.cells #[.int .i64 t.f0, .int .i64 t.f1, .int .i64 t.f2, .slice AS t.f3.length dS] 44)) (.cells #[.slice none 0 0, .slice none 0 0, .slice none 0 0, .slice none 0 0, .slice none 0 0] 80)
  rw [hz1] at hF0
  rw [hz2] at hT0
  rw [hz3] at hRB
  have hb := below_alloc (@bl3 w (.cells #[.slice A0 s.f0.length c0, .slice A1 s.f1.length c1, .slice A2 s.f2.length c2, .slice A3 s.f3.length c3, .slice A4 s.f4.length c4] 80) (.cells #[.int .i64 f.f0, .int .i64 f.f1] 85) (.cells #[.int .i64 t.f0, .int .i64 t.f1, .int .i64 t.f2, .slice AS t.f3.length dS] 44)) (.cells #[.slice none 0 0, .slice none 0 0, .slice none 0 0, .slice none 0 0, .slice none 0 0] 80)
  go_enter Tryz.func66, Tryz.ntmps66
  go_wp2_with fail
  refine (admit_Drop.calls s [.slice A0 s.f0.length c0, .slice A1 s.f1.length c1, .slice A2 s.f2.length c2, .slice A3 s.f3.length c3, .slice A4 s.f4.length c4] (fun k => ok k ∧ k < w.heap.size) i _ (Kd.FK_below HB.out hb) HR.out).mono ?_; rintro e w2 ⟨cs', rfl, hFd, hb2⟩
  have hB2 := blk_below hB0 hb2
  have hF2 := blk_below hF0 hb2
  have hT2 := blk_below hT0 hb2
  have hR2 := blk_below hRB hb2
  have hbA := below_step hb hb2
  have hs2 := hb2.size
  rw [hz4] at hs2
  clear hB0 hF0 hT0 hRB hb hb2 hz1 hz2 hz3
  have hvc := Aside0.mk (show changeP s f i t = if (leaveP s i).2 = 0 then (if (addAP (leaveP s i).1 f t).2 = 0 then ((addAP (leaveP s i).1 f t).1, 0) else (s, (addAP (leaveP s i).1 f t).2)) else (s, (leaveP s i).2) from rfl)
  have hpl := HPL.out
  generalize leaveP s i = d at hFd hvc hpl ⊢
  have HFD := Aside0.mk (Kd.FK_mono (ok' := fun k => (ok k ∧ k < w.heap.size) ∨ w.heap.size + 4 ≤ k) hFd (fun k hk => hk.elim Or.inl (fun h => Or.inr (by rw [hz4] at h; omega))))
  have HPL2 := Aside0.mk hpl
  obtain ⟨B0, e0, B1, e1, B2, e2, B3, e3, B4, e4, rfl, -, -, -, -, -, -, -, -, -, -⟩ := k80_openF hFd
  clear hFd hpl
  have hX2 := blk_new w2 (.cells #[.slice none 0 0, .slice none 0 0, .slice none 0 0, .slice none 0 0, .slice none 0 0] 80)
  have hXb := below_alloc hbA (.cells #[.slice none 0 0, .slice none 0 0, .slice none 0 0, .slice none 0 0, .slice none 0 0] 80)
  have hXz : (w2.alloc (.cells #[.slice none 0 0, .slice none 0 0, .slice none 0 0, .slice none 0 0, .slice none 0 0] 80)).heap.size = w2.heap.size + 1 := alsz
  have hB3 := blk_al hB2 (.cells #[.slice none 0 0, .slice none 0 0, .slice none 0 0, .slice none 0 0, .slice none 0 0] 80)
  have hF3 := blk_al hF2 (.cells #[.slice none 0 0, .slice none 0 0, .slice none 0 0, .slice none 0 0, .slice none 0 0] 80)
  have hT3 := blk_al hT2 (.cells #[.slice none 0 0, .slice none 0 0, .slice none 0 0, .slice none 0 0, .slice none 0 0] 80)
  have hR3 := blk_al hR2 (.cells #[.slice none 0 0, .slice none 0 0, .slice none 0 0, .slice none 0 0, .slice none 0 0] 80)
  clear hB2 hF2 hT2 hR2
  by_cases cd : d.2 = 0
  · have hv1 := Aside0.mk (hvc.out.trans (if_pos cd))
    have cd2 : (d.2 == 0) = true := by rw [cd]; rfl
    go_wp2_with ((with_reducible refine gate_store (t := 80) (p := 10) (v := .tmp 16) rfl ?_); refine stB (w0 := w) (base := w.heap.size) (seg := [.slice B0 d.1.f0.length e0, .slice B1 d.1.f1.length e1, .slice B2 d.1.f2.length e2, .slice B3 d.1.f3.length e3, .slice B4 d.1.f4.length e4]) (cs' := [.slice B0 d.1.f0.length e0, .slice B1 d.1.f1.length e1, .slice B2 d.1.f2.length e2, .slice B3 d.1.f3.length e3, .slice B4 d.1.f4.length e4]) hX2 hXb (by omega) (h := fun w3 hX3 hb3 hg3 => ?_); (have hB4 := Aside0.mk (blk_grown hB3 hg3 (fun he => by have h2 : w.heap.size = w2.heap.size := Option.some.inj he; omega))); (have hF4 := Aside0.mk (blk_grown hF3 hg3 (fun he => by have h2 : w.heap.size + 1 = w2.heap.size := Option.some.inj he; omega))); (have hT4 := Aside0.mk (blk_grown hT3 hg3 (fun he => by have h2 : w.heap.size + 2 = w2.heap.size := Option.some.inj he; omega))); (have hR4 := Aside0.mk (blk_grown hR3 hg3 (fun he => by have h2 : w.heap.size + 3 = w2.heap.size := Option.some.inj he; omega))); (have hFD3 := Aside0.mk (Kd.FK_grown (FKb HFD.out (.cells #[.slice none 0 0, .slice none 0 0, .slice none 0 0, .slice none 0 0, .slice none 0 0] 80)) hg3 (fun k hk he => by have h2 : k = w2.heap.size := Option.some.inj he; have := hk.2; omega))); (have hs3 := hg3.size); (obtain ⟨x0, x1, x2, x3, x4⟩ := bx5 hB4.out); (obtain ⟨y0, y1, y2, y3, y4⟩ := bx5 hX3); (obtain ⟨z0, z1, z2, z3⟩ := bx4 hT4.out); (obtain ⟨u0, u1⟩ := bx2 hF4.out))
    refine (admit_Add.calls d.1 [.slice B0 d.1.f0.length e0, .slice B1 d.1.f1.length e1, .slice B2 d.1.f2.length e2, .slice B3 d.1.f3.length e3, .slice B4 d.1.f4.length e4] f t [.int .i64 t.f0, .int .i64 t.f1, .int .i64 t.f2, .slice AS t.f3.length dS] (fun k => ((ok k ∧ k < w.heap.size) ∨ w.heap.size + 4 ≤ k) ∧ k ≠ w2.heap.size) w3 (Kd.FK_mono hFD3.out (fun k hk => ⟨hk.1, by omega⟩)) (Kd.FK_mono (Kd.FK_below HT.out hb3) (fun k hk => ⟨Or.inl hk, by omega⟩)) HPL2.out HF1.out).mono ?_; rintro e w5 ⟨cs5, rfl, hF5, hb5⟩
    generalize addAP d.1 f t = r at hF5 hv1 ⊢
    have HF5 := Aside0.mk hF5
    obtain ⟨C0, k0, C1, k1, C2, k2, C3, k3, C4, k4, rfl, -, -, -, -, -, -, -, -, -, -⟩ := k80_openF hF5
    clear hF5
    have hB5 := Aside0.mk (blk_below hB4.out hb5)
    have hX5 := blk_below hX3 hb5
    have hR5 := Aside0.mk (blk_below hR4.out hb5)
    have hbw5 := below_step hb3 hb5
    have hs5 := hb5.size
    clear x0 x1 x2 x3 x4 y0 y1 y2 y3 y4 z0 z1 z2 z3 u0 u1
    by_cases cr : r.2 = 0
    · have hv2 := Aside0.mk (hv1.out.trans (if_pos cr))
      have cr2 : (r.2 == 0) = true := by rw [cr]; rfl
      go_wp2_with (first
        | ((with_reducible refine gate_store (t := 80) (p := 10) (v := .tmp 27) rfl ?_); refine stB (w0 := w) (base := w.heap.size) (seg := [.slice C0 r.1.f0.length k0, .slice C1 r.1.f1.length k1, .slice C2 r.1.f2.length k2, .slice C3 r.1.f3.length k3, .slice C4 r.1.f4.length k4]) (cs' := [.slice C0 r.1.f0.length k0, .slice C1 r.1.f1.length k1, .slice C2 r.1.f2.length k2, .slice C3 r.1.f3.length k3, .slice C4 r.1.f4.length k4]) hX5 hbw5 (by omega) (h := fun w6 hX6 hb6 hg6 => ?_); (have hR6 := Aside0.mk (blk_grown hR5.out hg6 (fun he => by have h2 : w.heap.size + 3 = w2.heap.size := Option.some.inj he; omega))); (have HF6 := Aside0.mk (Kd.FK_grown HF5.out hg6 (fun k hk he => by have h2 : k = w2.heap.size := Option.some.inj he; rcases hk with h | h; exact h.2 h2; omega))); (obtain ⟨y0, y1, y2, y3, y4⟩ := bx5 hX6))
        | ((with_reducible refine gate_store (t := 80) (p := 8) (v := .tmp 33) rfl ?_); refine stB (w0 := w) (base := w.heap.size) (seg := [.slice C0 r.1.f0.length k0, .slice C1 r.1.f1.length k1, .slice C2 r.1.f2.length k2, .slice C3 r.1.f3.length k3, .slice C4 r.1.f4.length k4]) (cs' := [.slice C0 r.1.f0.length k0, .slice C1 r.1.f1.length k1, .slice C2 r.1.f2.length k2, .slice C3 r.1.f3.length k3, .slice C4 r.1.f4.length k4]) hR6.out hb6 (by omega) (h := fun wy hBy hby hgy => ?_)))
      (try simp only [Exit.inBlock, Exit.then])
      refine bodyPost_ret (results_list (rs := [.cell 8 80, .tmp 9]) rfl (by simp) (.cell _ 80 _ (0, 0) _ rfl hBy Tryz.underlying80 rfl (by kernel_rfl) (.tmp .nil))) rfl ?_
      refine ⟨_, by rw [hv2.out]; rfl, ?_, hby⟩
      rw [hv2.out]
      exact Kd.FK_mono (Kd.FK_grown HF6.out hgy (fun k hk he => by have h2 := Option.some.inj he; rcases hk with h | h; (rcases h.1 with h3 | h3 <;> omega); omega)) (fun k hk => hk.elim (fun h => h.1.elim (fun h => Or.inl h.1) (fun h => Or.inr (by omega))) (fun h => Or.inr (by omega)))
    · have hv2 := Aside0.mk (hv1.out.trans (if_neg cr))
      have cr2 : (r.2 == 0) = false := by simpa using cr
      clear cr
      go_wp2_with (first
        | ((with_reducible refine gate_store (t := 80) (p := 10) (v := .tmp 27) rfl ?_); refine stB (w0 := w) (base := w.heap.size) (seg := [.slice C0 r.1.f0.length k0, .slice C1 r.1.f1.length k1, .slice C2 r.1.f2.length k2, .slice C3 r.1.f3.length k3, .slice C4 r.1.f4.length k4]) (cs' := [.slice C0 r.1.f0.length k0, .slice C1 r.1.f1.length k1, .slice C2 r.1.f2.length k2, .slice C3 r.1.f3.length k3, .slice C4 r.1.f4.length k4]) hX5 hbw5 (by omega) (h := fun w6 hX6 hb6 hg6 => ?_); (have hR6 := Aside0.mk (blk_grown hR5.out hg6 (fun he => by have h2 : w.heap.size + 3 = w2.heap.size := Option.some.inj he; omega))); (have hB6 := Aside0.mk (blk_grown hB5.out hg6 (fun he => by have h2 : w.heap.size = w2.heap.size := Option.some.inj he; omega))); (obtain ⟨y0, y1, y2, y3, y4⟩ := bx5 hB6.out))
        | ((with_reducible refine gate_store (t := 80) (p := 8) (v := .tmp 31) rfl ?_); refine stB (w0 := w) (base := w.heap.size) (seg := [.slice A0 s.f0.length c0, .slice A1 s.f1.length c1, .slice A2 s.f2.length c2, .slice A3 s.f3.length c3, .slice A4 s.f4.length c4]) (cs' := [.slice A0 s.f0.length c0, .slice A1 s.f1.length c1, .slice A2 s.f2.length c2, .slice A3 s.f3.length c3, .slice A4 s.f4.length c4]) hR6.out hb6 (by omega) (h := fun wy hBy hby hgy => ?_)))
      (try simp only [Exit.inBlock, Exit.then])
      refine bodyPost_ret (results_list (rs := [.cell 8 80, .tmp 9]) rfl (by simp) (.cell _ 80 _ (0, 0) _ rfl hBy Tryz.underlying80 rfl (by kernel_rfl) (.tmp .nil))) rfl ?_
      refine ⟨_, by rw [hv2.out]; rfl, ?_, hby⟩
      rw [hv2.out]
      exact Kd.FK_mono (Kd.FK_below H.out hby) (fun k hk => Or.inl hk)
  · have hv2 := Aside0.mk (hvc.out.trans (if_neg cd))
    have cd2 : (d.2 == 0) = false := by simpa using cd
    clear cd
    go_wp2_with (first
      | ((with_reducible refine gate_store (t := 80) (p := 10) (v := .tmp 16) rfl ?_); refine stB (w0 := w) (base := w.heap.size) (seg := [.slice B0 d.1.f0.length e0, .slice B1 d.1.f1.length e1, .slice B2 d.1.f2.length e2, .slice B3 d.1.f3.length e3, .slice B4 d.1.f4.length e4]) (cs' := [.slice B0 d.1.f0.length e0, .slice B1 d.1.f1.length e1, .slice B2 d.1.f2.length e2, .slice B3 d.1.f3.length e3, .slice B4 d.1.f4.length e4]) hX2 hXb (by omega) (h := fun w3 hX3 hb3 hg3 => ?_); (have hB4 := Aside0.mk (blk_grown hB3 hg3 (fun he => by have h2 : w.heap.size = w2.heap.size := Option.some.inj he; omega))); (have hF4 := Aside0.mk (blk_grown hF3 hg3 (fun he => by have h2 : w.heap.size + 1 = w2.heap.size := Option.some.inj he; omega))); (have hT4 := Aside0.mk (blk_grown hT3 hg3 (fun he => by have h2 : w.heap.size + 2 = w2.heap.size := Option.some.inj he; omega))); (have hR4 := Aside0.mk (blk_grown hR3 hg3 (fun he => by have h2 : w.heap.size + 3 = w2.heap.size := Option.some.inj he; omega))); (have hFD3 := Aside0.mk (Kd.FK_grown (FKb HFD.out (.cells #[.slice none 0 0, .slice none 0 0, .slice none 0 0, .slice none 0 0, .slice none 0 0] 80)) hg3 (fun k hk he => by have h2 : k = w2.heap.size := Option.some.inj he; have := hk.2; omega))); (have hs3 := hg3.size); (obtain ⟨x0, x1, x2, x3, x4⟩ := bx5 hB4.out); (obtain ⟨y0, y1, y2, y3, y4⟩ := bx5 hX3); (obtain ⟨z0, z1, z2, z3⟩ := bx4 hT4.out); (obtain ⟨u0, u1⟩ := bx2 hF4.out))
      | ((with_reducible refine gate_store (t := 80) (p := 8) (v := .tmp 20) rfl ?_); refine stB (w0 := w) (base := w.heap.size) (seg := [.slice A0 s.f0.length c0, .slice A1 s.f1.length c1, .slice A2 s.f2.length c2, .slice A3 s.f3.length c3, .slice A4 s.f4.length c4]) (cs' := [.slice A0 s.f0.length c0, .slice A1 s.f1.length c1, .slice A2 s.f2.length c2, .slice A3 s.f3.length c3, .slice A4 s.f4.length c4]) hR4.out hb3 (by omega) (h := fun wy hBy hby hgy => ?_)))
    (try simp only [Exit.inBlock, Exit.then])
    refine bodyPost_ret (results_list (rs := [.cell 8 80, .tmp 9]) rfl (by simp) (.cell _ 80 _ (0, 0) _ rfl hBy Tryz.underlying80 rfl (by kernel_rfl) (.tmp .nil))) rfl ?_
    refine ⟨_, by rw [hv2.out]; rfl, ?_, hby⟩
    rw [hv2.out]
    exact Kd.FK_mono (Kd.FK_below H.out hby) (fun k hk => Or.inl hk)
end Go.Proofs.YtmngaagojkihbaaGreat.FTop
