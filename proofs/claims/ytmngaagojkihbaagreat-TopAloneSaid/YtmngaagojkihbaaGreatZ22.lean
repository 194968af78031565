/- Contracts of functions that the statement TopAlone reaches, and plain lemmas. No condition. -/
import Derived.Test.YtmngaagojkihbaaGreatZ21
namespace Go.Proofs.YtmngaagojkihbaaGreat.FTop
open Go.RowKit Go.Proofs.YtmngaagojkihbaaGreatW.PrintWords Go.Proofs.YtmngaagojkihbaaGreatW.PrintLast Go.Proofs.YtmngaagojkihbaaGreatW.PrintMore
attribute [local go_sem] max2_int min2_int max_two min_two
set_option linter.unusedVariables false
set_option linter.unusedSimpArgs false
set_option maxHeartbeats 8000000
set_option maxRecDepth 100000
theorem N_cap {α : Type} {d : Kd α} {e : Nat} {w : World} {base : Nat} {ok : Nat → Prop} {v : Value} {xs : List α} (h : Kd.N d e w base ok v xs) : ∃ A c, v = .slice A xs.length c ∧ xs.length ≤ c ∧ Kd.F d w ok A xs.length xs := by
  obtain ⟨A, c, rfl⟩ := Kd.N_slice h
  exact ⟨A, c, rfl, (Kd.N_reads' h).2.1, Kd.N_F h⟩
theorem boot_z (w : World) (ok : Nat → Prop) : Kd.FK k66 w ok z66 [.int .i64 0, .slice none 0 0, .slice none 0 0, .slice none 0 0, .slice none 0 0, .int .i64 0] := k66_mkF w ok z66 (A1 := none) (c1 := 0) (Nat.le_refl _) (Kd.F_nil _ _ _) (A2 := none) (c2 := 0) (Nat.le_refl _) (Kd.F_nil _ _ _) (A3 := none) (c3 := 0) (Nat.le_refl _) (Kd.F_nil _ _ _) (A4 := none) (c4 := 0) (Nat.le_refl _) (Kd.F_nil _ _ _)
def bootE : List S87 → Int
  | [] => 0
  | p :: r => if (bootP p).2 = 0 then bootE r else (bootP p).2
def faces (ps : List S87) : List S85 := ps.map (fun p => p.f0)
def boots (ps : List S87) : List S80 := ps.map (fun p => (bootP p).1)
def bootK (ps : List S87) (qs : List S91) : S66 × Int :=
  if imgR ps qs = true then
    (if (makeI (faces ps)).2.2 = 0 then
      (if bootE ps = 0 then (⟨(makeI (faces ps)).1, (makeI (faces ps)).2.1, faces ps, boots ps, (openL qs).1, 0⟩, 0) else (z66, bootE ps))
    else (z66, (makeI (faces ps)).2.2))
  else (z66, 1)
theorem bootE_at (ps : List S87) (i : Nat) (hi : i < ps.length) (h : ∀ j (hj : j < ps.length), j < i → (bootP ps[j]).2 = 0) (he : (bootP ps[i]).2 ≠ 0) : bootE ps = (bootP ps[i]).2 := by
  induction ps generalizing i with
  | nil => simp at hi
  | cons p r ih =>
    cases i with
    | zero => exact if_neg he
    | succ i =>
      have h0 : (bootP p).2 = 0 := h 0 (by simp) (by omega)
      show (if (bootP p).2 = 0 then bootE r else (bootP p).2) = _
      rw [if_pos h0]
      exact ih i (by simpa using hi) (fun j hj hji => h (j + 1) (by simpa using hj) (by omega)) he
theorem bootE_none (ps : List S87) (h : ∀ j (hj : j < ps.length), (bootP ps[j]).2 = 0) : bootE ps = 0 := by
  induction ps with
  | nil => rfl
  | cons p r ih =>
    have h0 : (bootP p).2 = 0 := h 0 (by simp)
    refine (show bootE (p :: r) = bootE r from if_pos h0).trans ?_
    exact ih (fun j hj => h (j + 1) (by simpa using hj))
theorem el87F {w : World} {ok : Nat → Prop} {A : Option Addr} {l : List S87} (h : Kd.F k87 w ok A l.length l) (i : Nat) (hi : i < l.length) : ∃ (ad : Addr) (A2 : Option Addr) (c2 : Nat) (t : S87), A = some ad ∧ Aside0 (l[i] = t) ∧ w.cell? (ad.add (i * 3)) = some (.int .i64 t.f0.f0) ∧ w.cell? ⟨(ad.add (i * 3)).block, (ad.add (i * 3)).off + 1, none⟩ = some (.int .i64 t.f0.f1) ∧ w.cell? ⟨(ad.add (i * 3)).block, (ad.add (i * 3)).off + 2, none⟩ = some (.slice A2 t.f1.length c2) ∧ t.f1.length ≤ c2 ∧ Kd.F k44 w ok A2 t.f1.length t.f1 := by
  obtain ⟨ad, c, hA, hcl, hK, hc, -⟩ := Kd.F_get h z87 (i : Int) (by omega) (by omega)
  have hq : l.getD (i : Int).toNat z87 = l[i] := by rw [Int.toNat_natCast, List.getD_eq_getElem?_getD, List.getElem?_eq_getElem hi, Option.getD_some]
  rw [hq] at hK
  rw [Int.toNat_natCast] at hc
  obtain ⟨A2, c2, rfl, l2, g2⟩ := k87_openF hK
  have hc : ∀ j u, [.int .i64 l[i].f0.f0, .int .i64 l[i].f0.f1, .slice A2 l[i].f1.length c2][j]? = some u → w.cell? (ad.add (i * 3 + j)) = some u := hc
  exact ⟨ad, A2, c2, l[i], hA, ⟨rfl⟩, hc 0 _ rfl, by rw [← add_field _ _ 1 (by omega)]; exact hc 1 _ rfl, by rw [← add_field _ _ 2 (by omega)]; exact hc 2 _ rfl, l2, g2⟩
theorem imgR_parts {ps : List S87} {qs : List S91} (h : imgR ps qs = true) : ps.length ≤ 4 ∧ (∀ x ∈ ps, supR x.f0 = true ∧ taskA x.f1 = true) ∧ (∀ f ∈ faces ps, supR f = true) ∧ (openL qs).2 = 0 := by
  simp only [imgR, Bool.and_eq_true, List.all_eq_true, decide_eq_true_eq, partOk] at h
  obtain ⟨⟨h1, h2⟩, h3, h4⟩ := h
  exact ⟨h4, h1, fun f hf => by obtain ⟨p, hp, rfl⟩ := List.mem_map.1 hf; exact (h1 p hp).1, h3⟩
theorem kernel_Boot.calls (A1 A2 : Option Addr) (c1 c2 : Nat) (ps : List S87) (qs : List S91) (ok : Nat → Prop) (w : World) (hP : Kd.F k87 w ok A1 ps.length ps) (hQ : Kd.F k91 w ok A2 qs.length qs) (hp : ps.length ≤ 1000) (hq : qs.length ≤ 1000) :
    Calls Tryz.prog 14 #[.agg #[.slice A1 ps.length c1, .slice A2 qs.length c2]] w fun e w' => ∃ cs', e = .returned (.tuple #[.agg cs'.toArray, .int .i64 (bootK ps qs).2]) ∧ Kd.FK k66 w' (nw ok w) (bootK ps qs).1 cs' ∧ Below w.heap.size w w' := by
  have hu := Tryz.underlying66
  have hu2 := Tryz.underlying53
  have hu3 := Tryz.underlying87
  have hu4 := Tryz.underlying85
  have hu5 := Tryz.underlying61
  have HP := Aside0.mk (Kd.F_bound hP)
  have HQ := Aside0.mk (Kd.F_bound hQ)
  clear hP hQ
  have hb := @bl2 w (.cells #[.slice A1 ps.length c1, .slice A2 qs.length c2] 53) (.cells #[.int .i64 0, .slice none 0 0, .slice none 0 0, .slice none 0 0, .slice none 0 0, .int .i64 0] 66)
  have hz : ((w.alloc (.cells #[.slice A1 ps.length c1, .slice A2 qs.length c2] 53)).alloc (.cells #[.int .i64 0, .slice none 0 0, .slice none 0 0, .slice none 0 0, .slice none 0 0, .int .i64 0] 66)).heap.size = w.heap.size + 2 := by rw [alsz, alsz]
  have hV := blk_al (blk_new w (.cells #[.slice A1 ps.length c1, .slice A2 qs.length c2] 53)) (.cells #[.int .i64 0, .slice none 0 0, .slice none 0 0, .slice none 0 0, .slice none 0 0, .int .i64 0] 66)
  have hR := blk_new (w.alloc (.cells #[.slice A1 ps.length c1, .slice A2 qs.length c2] 53)) (.cells #[.int .i64 0, .slice none 0 0, .slice none 0 0, .slice none 0 0, .slice none 0 0, .int .i64 0] 66)
  rw [show (w.alloc (.cells #[.slice A1 ps.length c1, .slice A2 qs.length c2] 53)).heap.size = w.heap.size + 1 from alsz] at hR
  go_enter Tryz.func14, Tryz.ntmps14
  go_wp2_with fail
  refine (image_Right.calls A1 A2 c1 c2 ps qs _ (Kd.F_now (Kd.F_below HP.out hb)) (Kd.F_now (Kd.F_below HQ.out hb)) hp hq).mono ?_; rintro _ w2 ⟨rfl, hb2⟩
  have hV2 := blk_below hV hb2
  have hR2 := blk_below hR hb2
  have hbA := below_step hb hb2
  have hs2 := hb2.size
  rw [hz] at hs2
  clear hb hb2 hV hR hz
  have hvk := Aside0.mk (show bootK ps qs = if imgR ps qs = true then _ else _ from rfl)
  by_cases cr : imgR ps qs = true
  · rw [cr]
    have hv1 := Aside0.mk (hvk.out.trans (if_pos cr))
    have hS3 := blk_new w2 (.cells #[.int .i64 0, .slice none 0 0, .slice none 0 0, .slice none 0 0, .slice none 0 0, .int .i64 0] 66)
    have hV3 := blk_al hV2 (.cells #[.int .i64 0, .slice none 0 0, .slice none 0 0, .slice none 0 0, .slice none 0 0, .int .i64 0] 66)
    have hR3 := blk_al hR2 (.cells #[.int .i64 0, .slice none 0 0, .slice none 0 0, .slice none 0 0, .slice none 0 0, .int .i64 0] 66)
    have hb3 := below_alloc hbA (.cells #[.int .i64 0, .slice none 0 0, .slice none 0 0, .slice none 0 0, .slice none 0 0, .int .i64 0] 66)
    have hs3 : (w2.alloc (.cells #[.int .i64 0, .slice none 0 0, .slice none 0 0, .slice none 0 0, .slice none 0 0, .int .i64 0] 66)).heap.size = w2.heap.size + 1 := alsz
    obtain ⟨y0, y1⟩ := bx2 hV3
    go_wp2
    generalize w2.alloc (.cells #[.int .i64 0, .slice none 0 0, .slice none 0 0, .slice none 0 0, .slice none 0 0, .int .i64 0] 66) = w3 at hS3 hV3 hR3 hb3 hs3 y0 y1 ⊢
    have hfl : (faces ps).length = ps.length := List.length_map ..
    have HFL := Aside0.mk hfl
    clear hfl y0 y1
    go_loopg [19] ps.length (fun k v19 wr => ∃ (i : Nat) (AF : Option Addr) (cF : Nat), i + k = ps.length ∧ v19 = .int .i64 i ∧ wr.heap[w2.heap.size]? = some (.cells #[.int .i64 0, .slice none 0 0, .slice AF i cF, .slice none 0 0, .slice none 0 0, .int .i64 0] 66 (0, 0)) ∧ Kd.N k85 85 wr w.heap.size (fun k => w3.heap.size ≤ k) (.slice AF i cF) ((faces ps).take i) ∧ wr.heap[w.heap.size]? = some (.cells #[.slice A1 ps.length c1, .slice A2 qs.length c2] 53 (0, 0)) ∧ wr.heap[w.heap.size + 1]? = some (.cells #[.int .i64 0, .slice none 0 0, .slice none 0 0, .slice none 0 0, .slice none 0 0, .int .i64 0] 66 (0, 0)) ∧ Below w.heap.size w wr ∧ w3.heap.size ≤ wr.heap.size)
    case atStart => exact ⟨0, none, 0, by omega, by go_num, hS3, by rw [List.take_zero]; exact Kd.N_nil _ _ _ _ _, hV3, hR3, hb3, Nat.le_refl _⟩
    case round =>
      clear hS3 hV3 hR3 hb3
      obtain ⟨i, AF, cF, hi, rfl, hS, hN, hV4, hR4, hbr, hsr⟩ := hrel
      by_cases ci : i < ps.length
      · obtain ⟨ad, B2, d2, x, hAd, hx, e0, e1, e2, m2, q2⟩ := el87 (Kd.F_now (Kd.F_below HP.out hbr)) i ci
        subst hAd
        have HST := Aside0.mk (show (faces ps).take i ++ [x.f0] = (faces ps).take (i + 1) by rw [List.take_succ_eq_append_getElem (by rw [HFL.out]; exact ci)]; simp only [faces, List.getElem_map, hx.out])
        have HN6 := Aside0.mk (Kd.N_below hN (bl1 (o := (.cells #[.int .i64 x.f0.f0, .int .i64 x.f0.f1, .slice B2 x.f1.length d2] 87))))
        have hS6 := blk_al hS (.cells #[.int .i64 x.f0.f0, .int .i64 x.f0.f1, .slice B2 x.f1.length d2] 87)
        have hV6 := blk_al hV4 (.cells #[.int .i64 x.f0.f0, .int .i64 x.f0.f1, .slice B2 x.f1.length d2] 87)
        have hR6 := blk_al hR4 (.cells #[.int .i64 x.f0.f0, .int .i64 x.f0.f1, .slice B2 x.f1.length d2] 87)
        have hb6 := below_alloc hbr (.cells #[.int .i64 x.f0.f0, .int .i64 x.f0.f1, .slice B2 x.f1.length d2] 87)
        have hs6 : (wr.alloc (.cells #[.int .i64 x.f0.f0, .int .i64 x.f0.f1, .slice B2 x.f1.length d2] 87)).heap.size = wr.heap.size + 1 := alsz
        have hown : ∀ k, (Value.slice AF i cF).ownBlock = some k → w3.heap.size ≤ k := fun k hk => hN.1 k hk
        have HOW := Aside0.mk hown
        clear hN q2 hS hown
        obtain ⟨z0, z1, z2, z3, z4, z5⟩ := bx6 hS6
        go_wp2_with ((with_reducible refine gate_builtin (b := .append) (xs := #[.tmp 24, .tmp 27]) rfl ?_); at_builtin; refine stop_ ?_)
        refine ⟨?_⟩
        refine apN row85 (w0 := w) (cs := [.int .i64 x.f0.f0, .int .i64 x.f0.f1]) (p := x.f0) (okp := fun _ => False) HN6.out (k85_mkF _ _ x.f0) (fun k hk => hk.elim) (fun k hk => by omega) hb6 (by omega) (by rw [List.length_take]; omega) (h := fun v7 w7 hN7 hb7 hg7 hat7 => ?_)
        rw [HST.out] at hN7
        obtain ⟨AF2, cF2, rfl, -, -⟩ := N_cap hN7
        have hlt : ((faces ps).take (i + 1)).length = i + 1 := by rw [List.length_take, HFL.out]; omega
        rw [hlt] at hN7 ⊢
        have HN7 := Aside0.mk hN7
        have hS7 := blk_grown hS6 hg7 (fun he => by have := HOW.out _ he.symm; omega)
        have hV7 := blk_grown hV6 hg7 (fun he => by have := HOW.out _ he.symm; omega)
        have hR7 := blk_grown hR6 hg7 (fun he => by have := HOW.out _ he.symm; omega)
        have hs7 := hg7.size
        rw [hs6] at hs7
        clear hN7 z0 z1 z2 z3 z4 z5
        go_wp2_with ((with_reducible refine gate_store (t := 62) (p := 29) (v := .tmp 28) rfl ?_); refine stop_ ?_)
        refine ⟨?_⟩
        refine stB (w0 := w) (base := w.heap.size) (seg := [.slice AF2 (i + 1) cF2]) (cs' := [.int .i64 0, .slice none 0 0, .slice AF2 (i + 1) cF2, .slice none 0 0, .slice none 0 0, .int .i64 0]) hS7 hb7 (by omega) (h := fun w9 hS9 hb9 hg9 => ?_)
        have hV9 := blk_grown hV7 hg9 (fun he => by have h2 := Option.some.inj he; (try dsimp only at h2); omega)
        have hR9 := blk_grown hR7 hg9 (fun he => by have h2 := Option.some.inj he; (try dsimp only at h2); omega)
        have hs9 := hg9.size
        have HN9 := Aside0.mk (Kd.N_grown HN7.out hg9 (fun k hk he => by have h2 := Option.some.inj he; omega))
        go_wp2
        go_roundg (ps.length - i - 1)
        case measure => omega
        case rel => exact ⟨i + 1, AF2, cF2, by omega, by go_num, hS9, HN9.out, hV9, hR9, hb9, by omega⟩
      · have hie : i = ps.length := by omega
        subst hie
        have HN6 := Aside0.mk (show Kd.N k85 85 wr w.heap.size (fun k => w3.heap.size ≤ k) (.slice AF ps.length cF) (faces ps) by rw [List.take_of_length_le (by rw [HFL.out]; omega)] at hN; exact hN)
        clear hN
        obtain ⟨z0, z1, z2, z3, z4, z5⟩ := bx6 hS
        go_wp2_with fail
        have hK := table_Make.calls AF cF (faces ps) wr (by rw [HFL.out]; exact Kd.F_now (Kd.N_F HN6.out)) (by rw [HFL.out]; exact (imgR_parts cr).1) (imgR_parts cr).2.2.1
        rw [HFL.out] at hK
        refine hK.mono ?_; rintro _ w4 ⟨v4, rfl, hN4, hb4⟩
        clear hK
        have HP4 := Aside0.mk (imgR_parts cr).2.1
        have hq3 := (imgR_parts cr).2.2.2
        generalize makeI (faces ps) = mk at hv1 hN4 ⊢
        obtain ⟨AW, cW, rfl, hcW, hFW⟩ := N_cap hN4
        have HFW := Aside0.mk hFW
        have hS4 := blk_below hS hb4
        have hV5 := blk_below hV4 hb4
        have hR5 := blk_below hR4 hb4
        have hb5 := below_step hbr hb4
        have hs4 := hb4.size
        have HFF := Aside0.mk (Kd.F_below (Kd.F_bound (Kd.N_F HN6.out)) hb4)
        have hcF := (Kd.N_reads' HN6.out).2.1
        have HCF := Aside0.mk hcF
        have HCW := Aside0.mk hcW
        clear hN4 hFW hS hV4 hR4 hbr hb4 z0 z1 z2 z3 z4 z5 HN6 hcF hcW
        obtain ⟨z0, z1, z2, z3, z4, z5⟩ := bx6 hS4
        go_wp2_with ((with_reducible refine gate_store (t := 61) (p := 37) (v := .tmp 35) rfl ?_); refine stop_ ?_)
        refine ⟨?_⟩
        refine stB (w0 := w) (base := w.heap.size) (seg := [.int .i64 mk.1, .slice AW mk.2.1.length cW]) (cs' := [.int .i64 mk.1, .slice AW mk.2.1.length cW, .slice AF ps.length cF, .slice none 0 0, .slice none 0 0, .int .i64 0]) hS4 hb5 (by omega) (h := fun w5 hS5 hb6 hg5 => ?_)
        have hV6 := blk_grown hV5 hg5 (fun he => by have h2 := Option.some.inj he; (try dsimp only at h2); omega)
        have hR6 := blk_grown hR5 hg5 (fun he => by have h2 := Option.some.inj he; (try dsimp only at h2); omega)
        have hs5 := hg5.size
        have HFW5 := Aside0.mk (Kd.F_mono (ok' := (fun k => w3.heap.size ≤ k ∧ k < w5.heap.size)) (Kd.F_grown (Kd.F_bound HFW.out) hg5 (fun k hk he => by have h2 := Option.some.inj he; have := hk.1; omega)) (fun k hk => by omega))
        have HFF5 := Aside0.mk (Kd.F_mono (ok' := (fun k => w3.heap.size ≤ k ∧ k < w5.heap.size)) (Kd.F_grown HFF.out hg5 (fun k hk he => by have h2 := Option.some.inj he; have := hk.1; omega)) (fun k hk => by omega))
        clear z0 z1 z2 z3 z4 z5 hS4 hV5 hR5 hb5 hg5 HFF HFW
        by_cases ce : mk.2.2 = 0
        · have hv2 := Aside0.mk (hv1.out.trans (if_pos ce))
          have ce2 : (mk.2.2 == 0) = true := by rw [ce]; rfl
          obtain ⟨y0, y1⟩ := bx2 hV6
          have HCE := Aside0.mk ce
          clear ce
          go_wp2
          have hbl : (boots ps).length = ps.length := List.length_map ..
          have HBL := Aside0.mk hbl
          clear hbl y0 y1
          rw [show (mk.2.2 != 0) = false by rw [HCE.out]; rfl]
          go_loopg [45] ps.length (fun k v45 wr => ∃ (i : Nat) (AP : Option Addr) (cP : Nat), i + k = ps.length ∧ v45 = .int .i64 i ∧ wr.heap[w2.heap.size]? = some (.cells #[.int .i64 mk.1, .slice AW mk.2.1.length cW, .slice AF ps.length cF, .slice AP i cP, .slice none 0 0, .int .i64 0] 66 (0, 0)) ∧ Kd.N k80 80 wr w.heap.size (fun k => (ok k ∧ k < w.heap.size) ∨ w5.heap.size ≤ k) (.slice AP i cP) ((boots ps).take i) ∧ Kd.F k153 wr (fun k => w3.heap.size ≤ k ∧ k < w5.heap.size) AW mk.2.1.length mk.2.1 ∧ Kd.F k85 wr (fun k => w3.heap.size ≤ k ∧ k < w5.heap.size) AF ps.length (faces ps) ∧ Aside0 (∀ j (hj : j < ps.length), j < i → (bootP ps[j]).2 = 0) ∧ wr.heap[w.heap.size]? = some (.cells #[.slice A1 ps.length c1, .slice A2 qs.length c2] 53 (0, 0)) ∧ wr.heap[w.heap.size + 1]? = some (.cells #[.int .i64 0, .slice none 0 0, .slice none 0 0, .slice none 0 0, .slice none 0 0, .int .i64 0] 66 (0, 0)) ∧ Below w.heap.size w wr ∧ w5.heap.size ≤ wr.heap.size)
          case atStart => exact ⟨0, none, 0, by omega, by go_num, hS5, by rw [List.take_zero]; exact Kd.N_nil _ _ _ _ _, HFW5.out, HFF5.out, ⟨fun j hj h => by omega⟩, hV6, hR6, hb6, Nat.le_refl _⟩
          case round =>
            clear hS5 hV6 hR6 hb6 HFW5 HFF5
            obtain ⟨i, AP, cP, hi, rfl, hS, hN, hFW, hFF, hZ, hV4, hR4, hbr, hsr⟩ := hrel
            have HFW := Aside0.mk hFW
            have HFF := Aside0.mk hFF
            have hown : ∀ k, (Value.slice AP i cP).ownBlock = some k → w5.heap.size ≤ k := fun k hk => (hN.1 k hk).elim (fun h => by have := Kd.N_base hN k hk; omega) (fun h => h)
            have HOW := Aside0.mk hown
            have HLT := Aside0.mk (fun k hk => Kd.N_lt hN k hk)
            clear hFW hFF hown
            by_cases ci : i < ps.length
            · obtain ⟨ad, B2, d2, x, hAd, hx, e0, e1, e2, m2, q2⟩ := el87F (Kd.F_below HP.out hbr) i ci
              subst hAd
              have HST := Aside0.mk (show (boots ps).take i ++ [(bootP x).1] = (boots ps).take (i + 1) by rw [List.take_succ_eq_append_getElem (by rw [HBL.out]; exact ci)]; simp only [boots, List.getElem_map, hx.out])
              have hpx := HP4.out x (by rw [← hx.out]; exact List.getElem_mem ci)
              have HX := Aside0.mk (k87_mkF _ _ x m2 q2)
              have HBE := Aside0.mk (show (bootP x).2 ≠ 0 → bootE ps = (bootP x).2 from fun he => by rw [← hx.out] at he ⊢; exact bootE_at ps i ci hZ.out he)
              have HZ2 := Aside0.mk (show (bootP x).2 = 0 → ∀ j (hj : j < ps.length), j < i + 1 → (bootP ps[j]).2 = 0 from fun he j hj hji => by
                by_cases h : j < i
                · exact hZ.out j hj h
                · have : j = i := by omega
                  subst this; rw [hx.out]; exact he)
              have HN6 := Aside0.mk (Kd.N_below (Kd.N_bound hN) (bl1 (o := (.cells #[.int .i64 x.f0.f0, .int .i64 x.f0.f1, .slice B2 x.f1.length d2] 87))))
              have hS6 := blk_al hS (.cells #[.int .i64 x.f0.f0, .int .i64 x.f0.f1, .slice B2 x.f1.length d2] 87)
              have hV6 := blk_al hV4 (.cells #[.int .i64 x.f0.f0, .int .i64 x.f0.f1, .slice B2 x.f1.length d2] 87)
              have hR6 := blk_al hR4 (.cells #[.int .i64 x.f0.f0, .int .i64 x.f0.f1, .slice B2 x.f1.length d2] 87)
              have hb6 := below_alloc hbr (.cells #[.int .i64 x.f0.f0, .int .i64 x.f0.f1, .slice B2 x.f1.length d2] 87)
              have hs6 : (wr.alloc (.cells #[.int .i64 x.f0.f0, .int .i64 x.f0.f1, .slice B2 x.f1.length d2] 87)).heap.size = wr.heap.size + 1 := alsz
              have hlS := (Array.getElem?_eq_some_iff.1 hS).1
              clear hN q2 hS
              go_wp2_with fail
              refine (admit_Boot.calls x [.int .i64 x.f0.f0, .int .i64 x.f0.f1, .slice B2 x.f1.length d2] (fun k => ok k ∧ k < w.heap.size) _ (Kd.FK_below HX.out bl1) hpx.1 hpx.2).mono ?_; rintro _ w7 ⟨cs7, rfl, hF7, hb7⟩
              have hS7 := blk_below hS6 hb7
              have hV7 := blk_below hV6 hb7
              have hR7 := blk_below hR6 hb7
              have hbB := below_step hb6 hb7
              have hs7 := hb7.size
              rw [hs6] at hs7
              have HN7 := Aside0.mk (Kd.N_below HN6.out hb7)
              have HFW7 := Aside0.mk (Kd.F_below (Kd.F_below HFW.out bl1) hb7)
              have HFF7 := Aside0.mk (Kd.F_below (Kd.F_below HFF.out bl1) hb7)
              have hF7 := Kd.FK_mono (ok' := fun k => (ok k ∧ k < w.heap.size) ∨ wr.heap.size + 1 ≤ k) hF7 (fun k hk => hk.elim Or.inl (fun h => Or.inr (by rw [hs6] at h; exact h)))
              have HF7 := Aside0.mk (Kd.FK_bound hF7)
              clear hpx
              generalize bootP x = r at hF7 HF7 HST HBE HZ2 ⊢
              obtain ⟨C0, k0, C1, k1, C2, k2, C3, k3, C4, k4, rfl, -, -, -, -, -, -, -, -, -, -⟩ := k80_openF hF7
              clear hF7 e0 e1 e2 hS6 hV6 hR6 hb6 hb7
              have hZ8 := blk_new w7 (.cells #[.slice none 0 0, .slice none 0 0, .slice none 0 0, .slice none 0 0, .slice none 0 0] 80)
              have hS8 := blk_al hS7 (.cells #[.slice none 0 0, .slice none 0 0, .slice none 0 0, .slice none 0 0, .slice none 0 0] 80)
              have hV8 := blk_al hV7 (.cells #[.slice none 0 0, .slice none 0 0, .slice none 0 0, .slice none 0 0, .slice none 0 0] 80)
              have hR8 := blk_al hR7 (.cells #[.slice none 0 0, .slice none 0 0, .slice none 0 0, .slice none 0 0, .slice none 0 0] 80)
              have hb8 := below_alloc hbB (.cells #[.slice none 0 0, .slice none 0 0, .slice none 0 0, .slice none 0 0, .slice none 0 0] 80)
              have hs8 : (w7.alloc (.cells #[.slice none 0 0, .slice none 0 0, .slice none 0 0, .slice none 0 0, .slice none 0 0] 80)).heap.size = w7.heap.size + 1 := alsz
              go_wp2_with ((with_reducible refine gate_store (t := 80) (p := 10) (v := .tmp 52) rfl ?_); refine stop_ ?_)
              refine ⟨?_⟩
              refine stB (w0 := w) (base := w.heap.size) (seg := [.slice C0 r.1.f0.length k0, .slice C1 r.1.f1.length k1, .slice C2 r.1.f2.length k2, .slice C3 r.1.f3.length k3, .slice C4 r.1.f4.length k4]) (cs' := [.slice C0 r.1.f0.length k0, .slice C1 r.1.f1.length k1, .slice C2 r.1.f2.length k2, .slice C3 r.1.f3.length k3, .slice C4 r.1.f4.length k4]) hZ8 hb8 (by omega) (h := fun w9 hZ9 hb9 hg9 => ?_)
              have hS9 := blk_grown hS8 hg9 (fun he => by have h2 := Option.some.inj he; (try dsimp only at h2); omega)
              have hV9 := blk_grown hV8 hg9 (fun he => by have h2 := Option.some.inj he; (try dsimp only at h2); omega)
              have hR9 := blk_grown hR8 hg9 (fun he => by have h2 := Option.some.inj he; (try dsimp only at h2); omega)
              have hs9 := hg9.size
              rw [hs8] at hs9
              have HN9 := Aside0.mk (Kd.N_mono (Kd.N_grown (Kd.N_below HN7.out (bl1 (o := (.cells #[.slice none 0 0, .slice none 0 0, .slice none 0 0, .slice none 0 0, .slice none 0 0] 80)))) hg9 (fun k hk he => by have h2 := Option.some.inj he; have := hk.2; omega)) (fun k hk => hk.1))
              have HFW9 := Aside0.mk (Kd.F_grown (Kd.F_below HFW7.out (bl1 (o := (.cells #[.slice none 0 0, .slice none 0 0, .slice none 0 0, .slice none 0 0, .slice none 0 0] 80)))) hg9 (fun k hk he => by have h2 := Option.some.inj he; have := hk.2; omega))
              have HFF9 := Aside0.mk (Kd.F_grown (Kd.F_below HFF7.out (bl1 (o := (.cells #[.slice none 0 0, .slice none 0 0, .slice none 0 0, .slice none 0 0, .slice none 0 0] 80)))) hg9 (fun k hk he => by have h2 := Option.some.inj he; have := hk.2; omega))
              have HF9 := Aside0.mk (Kd.FK_grown (Kd.FK_below HF7.out (bl1 (o := (.cells #[.slice none 0 0, .slice none 0 0, .slice none 0 0, .slice none 0 0, .slice none 0 0] 80)))) hg9 (fun k hk he => by have h2 := Option.some.inj he; have := hk.2; omega))
              obtain ⟨x0, x1, x2, x3, x4, x5⟩ := bx6 hS9
              obtain ⟨u0, u1, u2, u3, u4⟩ := bx5 hZ9
              by_cases cr2 : r.2 = 0
              · have cr3 : (r.2 == 0) = true := by rw [cr2]; rfl
                have HZ3 := Aside0.mk (HZ2.out cr2)
                clear cr2
                go_wp2_with ((with_reducible refine gate_builtin (b := .append) (xs := #[.tmp 59, .tmp 61]) rfl ?_); at_builtin; refine stop_ ?_)
                refine ⟨?_⟩
                refine apN row80 (w0 := w) (cs := [.slice C0 r.1.f0.length k0, .slice C1 r.1.f1.length k1, .slice C2 r.1.f2.length k2, .slice C3 r.1.f3.length k3, .slice C4 r.1.f4.length k4]) (p := r.1) HN9.out HF9.out (fun k hk => ⟨hk.1.elim Or.inl (fun h => Or.inr (by omega)), fun he => by have h1 := HOW.out k he.symm; have h2 := HLT.out k he.symm; rcases hk.1 with h | h <;> omega⟩) (fun k hk => Or.inr (by omega)) hb9 (by omega) (by rw [List.length_take]; omega) (h := fun v10 w10 hN10 hb10 hg10 hat10 => ?_)
                rw [HST.out] at hN10
                obtain ⟨AP2, cP2, rfl, -, -⟩ := N_cap hN10
                have hlt : ((boots ps).take (i + 1)).length = i + 1 := by rw [List.length_take, HBL.out]; omega
                rw [hlt] at hN10 ⊢
                have HN10 := Aside0.mk hN10
                have hS10 := blk_grown hS9 hg10 (fun he => by have := HOW.out _ he.symm; omega)
                have hV10 := blk_grown hV9 hg10 (fun he => by have := HOW.out _ he.symm; omega)
                have hR10 := blk_grown hR9 hg10 (fun he => by have := HOW.out _ he.symm; omega)
                have HFW10 := Aside0.mk (Kd.F_mono (ok' := (fun k => w3.heap.size ≤ k ∧ k < w5.heap.size)) (Kd.F_grown HFW9.out hg10 (fun k hk he => by have := HOW.out _ he.symm; have := hk.1; omega)) (fun k hk => hk))
                have HFF10 := Aside0.mk (Kd.F_mono (ok' := (fun k => w3.heap.size ≤ k ∧ k < w5.heap.size)) (Kd.F_grown HFF9.out hg10 (fun k hk he => by have := HOW.out _ he.symm; have := hk.1; omega)) (fun k hk => hk))
                have hs10 := hg10.size
                clear hN10 x0 x1 x2 x3 x4 x5 u0 u1 u2 u3 u4
                go_wp2_with ((with_reducible refine gate_store (t := 63) (p := 63) (v := .tmp 62) rfl ?_); refine stop_ ?_)
                refine ⟨?_⟩
                refine stB (w0 := w) (base := w.heap.size) (seg := [.slice AP2 (i + 1) cP2]) (cs' := [.int .i64 mk.1, .slice AW mk.2.1.length cW, .slice AF ps.length cF, .slice AP2 (i + 1) cP2, .slice none 0 0, .int .i64 0]) hS10 hb10 (by omega) (h := fun w11 hS11 hb11 hg11 => ?_)
                have hV11 := blk_grown hV10 hg11 (fun he => by have h2 := Option.some.inj he; (try dsimp only at h2); omega)
                have hR11 := blk_grown hR10 hg11 (fun he => by have h2 := Option.some.inj he; (try dsimp only at h2); omega)
                have hs11 := hg11.size
                have HN11 := Aside0.mk (Kd.N_grown HN10.out hg11 (fun k hk he => by have h2 := Option.some.inj he; rcases hk with h | h <;> omega))
                have HFW11 := Aside0.mk (Kd.F_grown HFW10.out hg11 (fun k hk he => by have h2 := Option.some.inj he; have := hk.1; omega))
                have HFF11 := Aside0.mk (Kd.F_grown HFF10.out hg11 (fun k hk he => by have h2 := Option.some.inj he; have := hk.1; omega))
                go_wp2
                go_roundg (ps.length - i - 1)
                case measure => omega
                case rel => exact ⟨i + 1, AP2, cP2, by omega, by go_num, hS11, HN11.out, HFW11.out, HFF11.out, HZ3, hV11, hR11, hb11, by omega⟩
              · have cr3 : (r.2 == 0) = false := by simpa using cr2
                have hv3 := Aside0.mk (hv2.out.trans ((if_neg (by rw [HBE.out cr2]; exact cr2)).trans (by rw [HBE.out cr2])))
                clear cr2
                go_wp2_with ((with_reducible refine gate_store (t := 66) (p := 2) (v := .tmp 56) rfl ?_); refine stop_ ?_)
                refine ⟨?_⟩
                refine stB (w0 := w) (base := w.heap.size) (seg := [.int .i64 0, .slice none 0 0, .slice none 0 0, .slice none 0 0, .slice none 0 0, .int .i64 0]) (cs' := [.int .i64 0, .slice none 0 0, .slice none 0 0, .slice none 0 0, .slice none 0 0, .int .i64 0]) hR9 hb9 (by omega) (h := fun wz hRz hbz hgz => ?_)
                go_wp2
                refine bodyPost_ret (results_list (rs := [.cell 2 66, .tmp 3]) rfl (by simp) (.cell _ 66 _ (0, 0) _ rfl hRz Tryz.underlying66 rfl (by kernel_rfl) (.tmp .nil))) rfl ?_
                rw [hv3.out]
                exact ⟨_, rfl, boot_z _ _, hbz⟩
            · have hie : i = ps.length := by omega
              subst hie
              have HN6 := Aside0.mk (show Kd.N k80 80 wr w.heap.size (fun k => (ok k ∧ k < w.heap.size) ∨ w5.heap.size ≤ k) (.slice AP ps.length cP) (boots ps) by rw [List.take_of_length_le (by rw [HBL.out]; omega)] at hN; exact hN)
              have hv3 := Aside0.mk (hv2.out.trans (if_pos (bootE_none ps (fun j hj => hZ.out j hj hj))))
              clear hN
              obtain ⟨z0, z1, z2, z3, z4, z5⟩ := bx6 hS
              obtain ⟨y0, y1⟩ := bx2 hV4
              go_wp2_with fail
              refine (port_Open.calls A2 c2 qs wr (Kd.F_now (Kd.F_below HQ.out hbr)) hq).mono ?_; rintro _ w6 ⟨AL, cL, rfl, hcL, hFL, hb7⟩
              have HFL2 := Aside0.mk (Kd.F_bound hFL)
              have hS7 := blk_below hS hb7
              have hV7 := blk_below hV4 hb7
              have hR7 := blk_below hR4 hb7
              have hbB := below_step hbr hb7
              have HFW7 := Aside0.mk (Kd.F_below HFW.out hb7)
              have HFF7 := Aside0.mk (Kd.F_below HFF.out hb7)
              have HN7 := Aside0.mk (Kd.N_below HN6.out hb7)
              have hs7 := hb7.size
              clear hFL z0 z1 z2 z3 z4 z5 y0 y1
              obtain ⟨z0, z1, z2, z3, z4, z5⟩ := bx6 hS7
              go_wp2_with ((with_reducible refine gate_store (t := 64) (p := 71) (v := .tmp 69) rfl ?_); refine stop_ ?_)
              refine ⟨?_⟩
              refine stB (w0 := w) (base := w.heap.size) (seg := [.slice AL (openL qs).1.length cL]) (cs' := [.int .i64 mk.1, .slice AW mk.2.1.length cW, .slice AF ps.length cF, .slice AP ps.length cP, .slice AL (openL qs).1.length cL, .int .i64 0]) hS7 hbB (by omega) (h := fun w8 hS8 hb8 hg8 => ?_)
              have hR8 := blk_grown hR7 hg8 (fun he => by have h2 := Option.some.inj he; (try dsimp only at h2); omega)
              have HFW8 := Aside0.mk (Kd.F_grown HFW7.out hg8 (fun k hk he => by have h2 := Option.some.inj he; have := hk.1; omega))
              have HFF8 := Aside0.mk (Kd.F_grown HFF7.out hg8 (fun k hk he => by have h2 := Option.some.inj he; have := hk.1; omega))
              have HN8 := Aside0.mk (Kd.N_grown HN7.out hg8 (fun k hk he => by have h2 := Option.some.inj he; rcases hk with h | h <;> omega))
              have HFL8 := Aside0.mk (Kd.F_grown HFL2.out hg8 (fun k hk he => by have h2 := Option.some.inj he; have := hk.1; omega))
              clear z0 z1 z2 z3 z4 z5
              obtain ⟨z0, z1, z2, z3, z4, z5⟩ := bx6 hS8
              go_wp2_with ((with_reducible refine gate_store (t := 66) (p := 2) (v := .tmp 72) rfl ?_); refine stop_ ?_)
              refine ⟨?_⟩
              refine stB (w0 := w) (base := w.heap.size) (seg := [.int .i64 mk.1, .slice AW mk.2.1.length cW, .slice AF ps.length cF, .slice AP ps.length cP, .slice AL (openL qs).1.length cL, .int .i64 0]) (cs' := [.int .i64 mk.1, .slice AW mk.2.1.length cW, .slice AF ps.length cF, .slice AP ps.length cP, .slice AL (openL qs).1.length cL, .int .i64 0]) hR8 hb8 (by omega) (h := fun w9 hR9 hb9 hg9 => ?_)
              have HFW9 := Kd.F_mono (ok' := nw ok w) (Kd.F_grown HFW8.out hg9 (fun k hk he => by have h2 := Option.some.inj he; have := hk.1; omega)) (fun k hk => Or.inr (by have := hk.1; omega))
              have HFF9 := Kd.F_mono (ok' := nw ok w) (Kd.F_grown HFF8.out hg9 (fun k hk he => by have h2 := Option.some.inj he; have := hk.1; omega)) (fun k hk => Or.inr (by have := hk.1; omega))
              have HNN9 := Kd.N_grown HN8.out hg9 (fun k hk he => by have h2 := Option.some.inj he; rcases hk with h | h <;> omega)
              have HFP9 := Kd.F_mono (ok' := nw ok w) (Kd.N_F HNN9) (fun k hk => by rcases hk with h | h <;> first | exact Or.inl h.1 | exact Or.inr (by omega))
              have hcP := (Kd.N_reads' HNN9).2.1
              have HFL9 := Kd.F_mono (ok' := nw ok w) (Kd.F_grown HFL8.out hg9 (fun k hk he => by have h2 := Option.some.inj he; have := hk.1; omega)) (fun k hk => Or.inr (by have := hk.1; omega))
              have HK9 := Aside0.mk (show Kd.FK k66 w9 (nw ok w) ⟨mk.1, mk.2.1, faces ps, boots ps, (openL qs).1, 0⟩ [.int .i64 mk.1, .slice AW mk.2.1.length cW, .slice AF ps.length cF, .slice AP ps.length cP, .slice AL (openL qs).1.length cL, .int .i64 0] from by
                have K := k66_mkF w9 (nw ok w) ⟨mk.1, mk.2.1, faces ps, boots ps, (openL qs).1, 0⟩ HCW.out HFW9 (c2 := cF) (show (faces ps).length ≤ cF by rw [HFL.out]; exact HCF.out) (show Kd.F k85 w9 (nw ok w) AF (faces ps).length (faces ps) by rw [HFL.out]; exact HFF9) (c3 := cP) (show (boots ps).length ≤ cP by rw [HBL.out]; exact hcP) (show Kd.F k80 w9 (nw ok w) AP (boots ps).length (boots ps) by rw [HBL.out]; exact HFP9) hcL HFL9
                rw [show (S66.mk mk.1 mk.2.1 (faces ps) (boots ps) (openL qs).1 0).f2.length = ps.length from HFL.out, show (S66.mk mk.1 mk.2.1 (faces ps) (boots ps) (openL qs).1 0).f3.length = ps.length from HBL.out] at K
                exact K)
              clear HFW9 HFF9 HNN9 HFP9 hcP HFL9
              go_wp2
              refine bodyPost_ret (results_list (rs := [.cell 2 66, .tmp 3]) rfl (by simp) (.cell _ 66 _ (0, 0) _ rfl hR9 Tryz.underlying66 rfl (by kernel_rfl) (.tmp .nil))) rfl ?_
              rw [hv3.out]
              exact ⟨_, rfl, HK9.out, hb9⟩
        · have hv2 := Aside0.mk (hv1.out.trans (if_neg ce))
          have ce2 : (mk.2.2 == 0) = false := by simpa using ce
          clear ce
          go_wp2_with ((with_reducible refine gate_store (t := 66) (p := 2) (v := .tmp 40) rfl ?_); refine stop_ ?_)
          refine ⟨?_⟩
          refine stB (w0 := w) (base := w.heap.size) (seg := [.int .i64 0, .slice none 0 0, .slice none 0 0, .slice none 0 0, .slice none 0 0, .int .i64 0]) (cs' := [.int .i64 0, .slice none 0 0, .slice none 0 0, .slice none 0 0, .slice none 0 0, .int .i64 0]) hR6 hb6 (by omega) (h := fun wz hRz hbz hgz => ?_)
          go_wp2
          refine bodyPost_ret (results_list (rs := [.cell 2 66, .tmp 3]) rfl (by simp) (.cell _ 66 _ (0, 0) _ rfl hRz Tryz.underlying66 rfl (by kernel_rfl) (.tmp .nil))) rfl ?_
          rw [hv2.out]
          exact ⟨_, rfl, boot_z _ _, hbz⟩
  · have hv1 := Aside0.mk (hvk.out.trans (if_neg cr))
    have cr2 : imgR ps qs = false := by simpa using cr
    rw [cr2]
    clear cr
    go_wp2_with ((with_reducible refine gate_store (t := 66) (p := 2) (v := .tmp 15) rfl ?_); refine stop_ ?_)
    refine ⟨?_⟩
    refine stB (w0 := w) (base := w.heap.size) (seg := [.int .i64 0, .slice none 0 0, .slice none 0 0, .slice none 0 0, .slice none 0 0, .int .i64 0]) (cs' := [.int .i64 0, .slice none 0 0, .slice none 0 0, .slice none 0 0, .slice none 0 0, .int .i64 0]) hR2 hbA (by omega) (h := fun wz hRz hbz hgz => ?_)
    go_wp2
    refine bodyPost_ret (results_list (rs := [.cell 2 66, .tmp 3]) rfl (by simp) (.cell _ 66 _ (0, 0) _ rfl hRz Tryz.underlying66 rfl (by kernel_rfl) (.tmp .nil))) rfl ?_
    rw [hv1.out]
    exact ⟨_, rfl, boot_z _ _, hbz⟩
abbrev kAsks : Kd (List S46) := Kd.slice 46 k46
theorem asks_openF {W : World} {ok : Nat → Prop} {x : List S46} {cs : List Value} (h : Kd.FK kAsks W ok x cs) : ∃ A c, cs = [.slice A x.length c] ∧ x.length ≤ c ∧ Kd.F k46 W ok A x.length x := by
  obtain ⟨A, c, rfl, l, _⟩ := Kd.FK_now h
  exact ⟨A, c, rfl, l, fun W' hW => by obtain ⟨A', c', he, l', g'⟩ := h W' hW; injection (Option.some.inj (show some (Value.slice A x.length c) = some (Value.slice A' x.length c') from congrArg (fun l => l[0]?) he)) with ha _ _; rw [ha]; exact g'⟩
theorem elAsksF {w : World} {ok : Nat → Prop} {A : Option Addr} {l : List (List S46)} (h : Kd.F kAsks w ok A l.length l) (i : Nat) (hi : i < l.length) : ∃ (ad : Addr) (B : Option Addr) (d : Nat) (t : List S46), A = some ad ∧ Aside0 (l[i] = t) ∧ w.cell? (ad.add i) = some (.slice B t.length d) ∧ t.length ≤ d ∧ Kd.F k46 w ok B t.length t := by
  obtain ⟨ad, c, hA, hcl, hK, hc, -⟩ := Kd.F_get h [] (i : Int) (by omega) (by omega)
  have hq : l.getD (i : Int).toNat [] = l[i] := by rw [Int.toNat_natCast, List.getD_eq_getElem?_getD, List.getElem?_eq_getElem hi, Option.getD_some]
  rw [hq] at hK
  rw [Int.toNat_natCast] at hc
  obtain ⟨B, d, rfl, hl, hF⟩ := asks_openF hK
  have hc : ∀ j u, [Value.slice B l[i].length d][j]? = some u → w.cell? (ad.add (i * 1 + j)) = some u := hc
  exact ⟨ad, B, d, l[i], hA, ⟨rfl⟩, by have := hc 0 _ rfl; rwa [Nat.add_zero, Nat.mul_one] at this, hl, hF⟩
def mayS (l : List (List S46)) : Bool := l.all (fun x => decide (x.length ≤ 100)) && decide (l.length ≤ 3000)
theorem world_may.calls (A : Option Addr) (c : Nat) (l : List (List S46)) (ok : Nat → Prop) (w : World) (h : Kd.F kAsks w ok A l.length l) (hl : l.length ≤ 100000) : Ret 15 #[.slice A l.length c] w (.bool (mayS l)) := by
  have H := Aside0.mk h
  clear h
  go_enter Tryz.func15, Tryz.ntmps15
  go_wp2
  go_loopg [7] l.length (fun k v7 wr => ∃ i : Nat, i + k = l.length ∧ v7 = .int .i64 i ∧ Aside0 (∀ j (hj : j < l.length), j < i → l[j].length ≤ 100) ∧ w = wr)
  case atStart => exact ⟨0, by omega, by go_num, ⟨fun j hj h => by omega⟩, rfl⟩
  case round =>
    obtain ⟨i, hi, rfl, hno, rfl⟩ := hrel
    by_cases ci : i < l.length
    · obtain ⟨ad, B, d, x, hA, hx, e0, hd, -⟩ := elAsksF H.out i ci
      subst hA
      by_cases cx : x.length ≤ 100
      · have hno2 := Aside0.mk (show ∀ j (hj : j < l.length), j < i + 1 → l[j].length ≤ 100 from fun j hj hji => by
          by_cases h : j < i
          · exact hno.out j hj h
          · have : j = i := by omega
            subst this; rw [hx.out]; exact cx)
        go_wp2
        go_roundg (l.length - i - 1)
        case measure => omega
        case rel => exact ⟨i + 1, by omega, by go_num, hno2, rfl⟩
      · have hv := Aside0.mk (show mayS l = false by
          unfold mayS
          rw [Bool.and_eq_false_iff]
          left
          rw [List.all_eq_false]
          exact ⟨l[i], List.getElem_mem ci, by rw [hx.out]; simpa using cx⟩)
        go_wp2
        go_ret
        exact ⟨by rw [hv.out]; rfl, bl0⟩
    · have hv := Aside0.mk (show mayS l = decide (l.length ≤ 3000) by
        unfold mayS
        rw [show l.all (fun x => decide (x.length ≤ 100)) = true from List.all_eq_true.2 (fun x hx => by obtain ⟨j, hj, rfl⟩ := List.getElem_of_mem hx; exact decide_eq_true (hno.out j hj (by omega))), Bool.true_and])
      go_wp2
      go_ret
      exact ⟨by rw [hv.out]; exact rb (by simp; omega), bl0⟩
theorem flat73 (W : World) (ok1 ok2 : Nat → Prop) (x : S73) (c : List Value) (h : Kd.FK k73 W ok1 x c) : Kd.FK k73 W ok2 x c := by rw [k73_open (Kd.FK_now h)]; exact k73_mkF _ _ _
theorem row36 : RowT k36 26 36 (.agg #[.slice none 0 0, .slice none 0 0, .slice none 0 0]) 72 := ⟨Tryz.underlying26, by kernel_rfl, rfl, by decide, by decide, by decide⟩
def cellsV (n : Nat) (f : Nat → Value) : List Value := (List.range (3 * n)).map f
def upd (f : Nat → Value) (j0 : Nat) (v : Value) : Nat → Value := fun j => if j = j0 then v else f j
theorem upd_same (f : Nat → Value) (j : Nat) (v : Value) : upd f j v j = v := if_pos rfl
theorem upd_ne (f : Nat → Value) {i j : Nat} (v : Value) (h : i ≠ j) : upd f j v i = f i := if_neg h
theorem cellsV_len (n : Nat) (f : Nat → Value) : (cellsV n f).length = 3 * n := by simp [cellsV]
theorem cellsV_get (n : Nat) (f : Nat → Value) (j : Nat) (h : j < 3 * n) : (cellsV n f)[j]? = some (f j) := by
  unfold cellsV; rw [List.getElem?_map, List.getElem?_range h]; rfl
theorem cellsV_upd (n : Nat) (f : Nat → Value) (j : Nat) (v : Value) (h : j < 3 * n) : (cellsV n f).take j ++ [v] ++ (cellsV n f).drop (j + 1) = cellsV n (upd f j v) := by
  apply List.ext_getElem?
  intro i
  have hl := cellsV_len n f
  rcases Nat.lt_trichotomy i j with hi | hi | hi
  · rw [List.getElem?_append_left (by rw [List.length_append, List.length_take, List.length_singleton, hl]; omega), List.getElem?_append_left (by rw [List.length_take, hl]; omega), List.getElem?_take_of_lt hi, cellsV_get _ _ _ (by omega), cellsV_get _ _ _ (by omega), upd_ne _ _ (by omega)]
  · subst hi
    rw [List.getElem?_append_left (by rw [List.length_append, List.length_take, List.length_singleton, hl]; omega), List.getElem?_append_right (by rw [List.length_take, hl]; omega), List.length_take, hl, Nat.min_eq_left (by omega), Nat.sub_self, cellsV_get _ _ _ h, upd_same]; rfl
  · rw [List.getElem?_append_right (by rw [List.length_append, List.length_take, List.length_singleton, hl]; omega), List.length_append, List.length_take, List.length_singleton, hl, Nat.min_eq_left (by omega), List.getElem?_drop, show j + 1 + (i - (j + 1)) = i by omega]
    by_cases hn : i < 3 * n
    · rw [cellsV_get _ _ _ hn, cellsV_get _ _ _ hn, upd_ne _ _ (by omega)]
    · rw [List.getElem?_eq_none (by rw [cellsV_len]; omega), List.getElem?_eq_none (by rw [cellsV_len]; omega)]
theorem getD_set36 (vs : List S36) (p q : Nat) (v : S36) (hp : p < vs.length) : (vs.set p v).getD q z36 = if q = p then v else vs.getD q z36 := by
  rw [List.getD_eq_getElem?_getD, List.getElem?_set, List.getD_eq_getElem?_getD]
  by_cases h : q = p
  · subst h; simp [hp]
  · rw [if_neg h, if_neg (fun e => h e.symm)]
structure VW (w : World) (base gV n : Nat) (f : Nat → Value) (vs : List S36) : Prop where
  hl : vs.length = n
  hb : w.heap[gV]? = some (.cells (cellsV n f).toArray 36 (0, 0))
  hg : base ≤ gV
  hS : ∀ p, p < n → Kd.N k73 73 w base (fun k => some k = (f (3 * p)).ownBlock) (f (3 * p)) (vs.getD p z36).f0
  hR : ∀ p, p < n → Kd.N (Kd.int .i64) 3 w base (fun k => some k = (f (3 * p + 1)).ownBlock) (f (3 * p + 1)) (vs.getD p z36).f1
  hL : ∀ p, p < n → f (3 * p + 2) = .slice none 0 0 ∧ (vs.getD p z36).f2 = []
  hd : ∀ i j, i < 3 * n → j < 3 * n → i ≠ j → ∀ k, (f i).ownBlock = some k → (f j).ownBlock ≠ some k
  hv : ∀ i, i < 3 * n → (f i).ownBlock ≠ some gV
def VO (gV n : Nat) (f : Nat → Value) (k : Nat) : Prop := k = gV ∨ ∃ i, i < 3 * n ∧ (f i).ownBlock = some k
section
variable {w w1 w2 : World} {base gV n : Nat} {f : Nat → Value} {vs : List S36}
theorem VW.own (h : VW w base gV n f vs) (i k : Nat) (hi : i < 3 * n) (hk : (f i).ownBlock = some k) : base ≤ k ∧ k < w.heap.size := by
  have h3 : i = 3 * (i / 3) ∨ i = 3 * (i / 3) + 1 ∨ i = 3 * (i / 3) + 2 := by omega
  rcases h3 with e | e | e
  · rw [e] at hk; exact ⟨Kd.N_base (h.hS _ (by omega)) k hk, Kd.N_lt (h.hS _ (by omega)) k hk⟩
  · rw [e] at hk; exact ⟨Kd.N_base (h.hR _ (by omega)) k hk, Kd.N_lt (h.hR _ (by omega)) k hk⟩
  · rw [e, (h.hL _ (by omega)).1] at hk; simp [Value.ownBlock] at hk
theorem VW.range (h : VW w base gV n f vs) {k : Nat} (hk : VO gV n f k) : base ≤ k ∧ k < w.heap.size := by
  rcases hk with rfl | ⟨i, hi, hk⟩
  · exact ⟨h.hg, blk_lt h.hb⟩
  · exact h.own i k hi hk
theorem VW.grown (h : VW w base gV n f vs) {g : Option Nat} (hg : w.grownBy w1 g) (hn : ∀ k, VO gV n f k → some k ≠ g) : VW w1 base gV n f vs :=
  ⟨h.hl, blk_grown h.hb hg (hn _ (Or.inl rfl)), h.hg, fun p hp => Kd.N_grown (h.hS p hp) hg (fun k hk => hn k (Or.inr ⟨3 * p, by omega, hk.symm⟩)), fun p hp => Kd.N_grown (h.hR p hp) hg (fun k hk => hn k (Or.inr ⟨3 * p + 1, by omega, hk.symm⟩)), h.hL, h.hd, h.hv⟩
theorem VW.below (h : VW w base gV n f vs) (hb : Below w.heap.size w w1) : VW w1 base gV n f vs :=
  ⟨h.hl, blk_below h.hb hb, h.hg, fun p hp => Kd.N_below (h.hS p hp) hb, fun p hp => Kd.N_below (h.hR p hp) hb, h.hL, h.hd, h.hv⟩
theorem VW.cell (h : VW w base gV n f vs) (j : Nat) (hj : j < 3 * n) : w.cell? ⟨gV, j, none⟩ = some (f j) := by
  rw [blk_cell h.hb, List.getElem?_toArray, cellsV_get _ _ _ hj]
theorem VW.dis (h : VW w base gV n f vs) (j0 : Nat) (hj : j0 < 3 * n) (v1 : Value) (hat : v1.ownBlock = (f j0).ownBlock ∨ ∃ b, v1.ownBlock = some b ∧ w.heap.size ≤ b) :
    (∀ i j, i < 3 * n → j < 3 * n → i ≠ j → ∀ k, (upd f j0 v1 i).ownBlock = some k → (upd f j0 v1 j).ownBlock ≠ some k) ∧ (∀ i, i < 3 * n → (upd f j0 v1 i).ownBlock ≠ some gV) := by
  have hgl := blk_lt h.hb
  have key : ∀ i, i < 3 * n → i ≠ j0 → ∀ k, (f i).ownBlock = some k → v1.ownBlock ≠ some k := by
    intro i hi hne k hk hk2
    rcases hat with e | ⟨b, e, hbl⟩
    · rw [e] at hk2; exact h.hd i j0 hi hj hne k hk hk2
    · rw [e] at hk2; have := Option.some.inj hk2; have := (h.own i k hi hk).2; omega
  refine ⟨fun i j hi hj2 hne k hk hk2 => ?_, fun i hi hk => ?_⟩
  · by_cases h1 : i = j0
    · subst h1
      rw [upd_same] at hk
      rw [upd_ne _ _ (fun e => hne e.symm)] at hk2
      exact key j hj2 (fun e => hne e.symm) k hk2 hk
    · rw [upd_ne _ _ h1] at hk
      by_cases h2 : j = j0
      · subst h2; rw [upd_same] at hk2; exact key i hi h1 k hk hk2
      · rw [upd_ne _ _ h2] at hk2; exact h.hd i j hi hj2 hne k hk hk2
  · by_cases h1 : i = j0
    · subst h1
      rw [upd_same] at hk
      rcases hat with e | ⟨b, e, hbl⟩
      · rw [e] at hk; exact h.hv i hi hk
      · rw [e] at hk; have := Option.some.inj hk; omega
    · rw [upd_ne _ _ h1] at hk; exact h.hv i hi hk
theorem VW.saw (h : VW w base gV n f vs) (p : Nat) (hp : p < n) (x : S73) (v1 : Value) {okx : Nat → Prop} (hg1 : w.grownBy w1 (f (3 * p)).ownBlock) (hN1 : Kd.N k73 73 w1 base okx v1 ((vs.getD p z36).f0 ++ [x]))
    (hat : v1.ownBlock = (f (3 * p)).ownBlock ∨ ∃ b, v1.ownBlock = some b ∧ w.heap.size ≤ b) (hg2 : w1.grownBy w2 (some gV)) (hc : w2.heap[gV]? = some (.cells (cellsV n (upd f (3 * p) v1)).toArray 36 (0, 0))) :
    VW w2 base gV n (upd f (3 * p) v1) (vs.set p ⟨(vs.getD p z36).f0 ++ [x], (vs.getD p z36).f1, (vs.getD p z36).f2⟩) := by
  obtain ⟨hd2, hv2⟩ := h.dis (3 * p) (by omega) v1 hat
  have hpl : p < vs.length := by rw [h.hl]; exact hp
  refine ⟨by rw [List.length_set]; exact h.hl, hc, h.hg, fun q hq => ?_, fun q hq => ?_, fun q hq => ?_, hd2, hv2⟩
  · rw [getD_set36 _ _ _ _ hpl]
    by_cases hqp : q = p
    · subst hqp
      rw [if_pos rfl, upd_same]
      exact Kd.N_grown (N_tight flat73 hN1) hg2 (fun k hk he => by have := hv2 (3 * q) (by omega); rw [upd_same, ← hk] at this; exact this he)
    · rw [if_neg hqp, upd_ne _ _ (by omega)]
      exact Kd.N_grown (Kd.N_grown (h.hS q hq) hg1 (fun k hk he => h.hd (3 * q) (3 * p) (by omega) (by omega) (by omega) k hk.symm he.symm)) hg2 (fun k hk he => h.hv (3 * q) (by omega) (hk.symm.trans he))
  · rw [getD_set36 _ _ _ _ hpl, upd_ne _ _ (by omega)]
    have : (if q = p then (⟨(vs.getD p z36).f0 ++ [x], (vs.getD p z36).f1, (vs.getD p z36).f2⟩ : S36) else vs.getD q z36).f1 = (vs.getD q z36).f1 := by by_cases hqp : q = p <;> simp [hqp]
    rw [this]
    exact Kd.N_grown (Kd.N_grown (h.hR q hq) hg1 (fun k hk he => h.hd (3 * q + 1) (3 * p) (by omega) (by omega) (by omega) k hk.symm he.symm)) hg2 (fun k hk he => h.hv (3 * q + 1) (by omega) (hk.symm.trans he))
  · rw [getD_set36 _ _ _ _ hpl, upd_ne _ _ (by omega)]
    refine ⟨(h.hL q hq).1, ?_⟩
    have : (if q = p then (⟨(vs.getD p z36).f0 ++ [x], (vs.getD p z36).f1, (vs.getD p z36).f2⟩ : S36) else vs.getD q z36).f2 = (vs.getD q z36).f2 := by by_cases hqp : q = p <;> simp [hqp]
    rw [this]
    exact (h.hL q hq).2
theorem VW.ran (h : VW w base gV n f vs) (p : Nat) (hp : p < n) (x : Int) (v1 : Value) {okx : Nat → Prop} (hg1 : w.grownBy w1 (f (3 * p + 1)).ownBlock) (hN1 : Kd.N (Kd.int .i64) 3 w1 base okx v1 ((vs.getD p z36).f1 ++ [x]))
    (hat : v1.ownBlock = (f (3 * p + 1)).ownBlock ∨ ∃ b, v1.ownBlock = some b ∧ w.heap.size ≤ b) (hg2 : w1.grownBy w2 (some gV)) (hc : w2.heap[gV]? = some (.cells (cellsV n (upd f (3 * p + 1) v1)).toArray 36 (0, 0))) :
    VW w2 base gV n (upd f (3 * p + 1) v1) (vs.set p ⟨(vs.getD p z36).f0, (vs.getD p z36).f1 ++ [x], (vs.getD p z36).f2⟩) := by
  obtain ⟨hd2, hv2⟩ := h.dis (3 * p + 1) (by omega) v1 hat
  have hpl : p < vs.length := by rw [h.hl]; exact hp
  refine ⟨by rw [List.length_set]; exact h.hl, hc, h.hg, fun q hq => ?_, fun q hq => ?_, fun q hq => ?_, hd2, hv2⟩
  · rw [getD_set36 _ _ _ _ hpl, upd_ne _ _ (by omega)]
    have : (if q = p then (⟨(vs.getD p z36).f0, (vs.getD p z36).f1 ++ [x], (vs.getD p z36).f2⟩ : S36) else vs.getD q z36).f0 = (vs.getD q z36).f0 := by by_cases hqp : q = p <;> simp [hqp]
    rw [this]
    exact Kd.N_grown (Kd.N_grown (h.hS q hq) hg1 (fun k hk he => h.hd (3 * q) (3 * p + 1) (by omega) (by omega) (by omega) k hk.symm he.symm)) hg2 (fun k hk he => h.hv (3 * q) (by omega) (hk.symm.trans he))
  · rw [getD_set36 _ _ _ _ hpl]
    by_cases hqp : q = p
    · subst hqp
      rw [if_pos rfl, upd_same]
      exact Kd.N_grown (N_tight flatI hN1) hg2 (fun k hk he => by have := hv2 (3 * q + 1) (by omega); rw [upd_same, ← hk] at this; exact this he)
    · rw [if_neg hqp, upd_ne _ _ (by omega)]
      exact Kd.N_grown (Kd.N_grown (h.hR q hq) hg1 (fun k hk he => h.hd (3 * q + 1) (3 * p + 1) (by omega) (by omega) (by omega) k hk.symm he.symm)) hg2 (fun k hk he => h.hv (3 * q + 1) (by omega) (hk.symm.trans he))
  · rw [getD_set36 _ _ _ _ hpl, upd_ne _ _ (by omega)]
    refine ⟨(h.hL q hq).1, ?_⟩
    have : (if q = p then (⟨(vs.getD p z36).f0, (vs.getD p z36).f1 ++ [x], (vs.getD p z36).f2⟩ : S36) else vs.getD q z36).f2 = (vs.getD q z36).f2 := by by_cases hqp : q = p <;> simp [hqp]
    rw [this]
    exact (h.hL q hq).2
end
end Go.Proofs.YtmngaagojkihbaaGreat.FTop
