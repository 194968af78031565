/- Contracts of functions that the statement TopAlone reaches, and plain lemmas. No condition. -/
import Derived.Test.YtmngaagojkihbaaGreatZ26
import Derived.Lib.SlBytesConst
namespace Go.Proofs.YtmngaagojkihbaaGreat.FTop
open Go.RowKit Go.Proofs.YtmngaagojkihbaaGreatW.PrintWords Go.Proofs.YtmngaagojkihbaaGreatW.PrintLast Go.Proofs.YtmngaagojkihbaaGreatW.PrintMore
attribute [local go_sem] max2_int min2_int max_two min_two
set_option linter.unusedVariables false
set_option linter.unusedSimpArgs false
set_option maxHeartbeats 8000000
set_option maxRecDepth 100000
def ref05_SameInts.T6 : Bool × List (List Nat × List Nat) := (true, [([], []), ([], []), ([0, 1], [0, 1]), ([2], [2]), ([], []), ([], []), ([4, 5], [4, 5]), ([6], [6]), ([3, 7], [3, 7])])
def ref05_SameInts.B6 : List Nat := [0, 0, 3, 7, 0, 0, 48, 112, 255]
theorem ref05_SameInts.tab6 : rtab .any (opsOf Tryz.f18 6) = ref05_SameInts.T6 := by kernel_rfl
theorem ref05_SameInts.bits6 : waitsOk ref05_SameInts.T6.2 ref05_SameInts.B6 = true := by kernel_rfl
def ref17_SameLog.T6 : Bool × List (List Nat × List Nat) := (true, [([], []), ([], []), ([0, 1], [0, 1]), ([2], [2]), ([], []), ([], []), ([4, 5], [4, 5]), ([6], [6]), ([3, 7], [3, 7])])
def ref17_SameLog.B6 : List Nat := [0, 0, 3, 7, 0, 0, 48, 112, 255]
theorem ref17_SameLog.tab6 : rtab .any (opsOf Tryz.f19 6) = ref17_SameLog.T6 := by kernel_rfl
theorem ref17_SameLog.bits6 : waitsOk ref17_SameLog.T6.2 ref17_SameLog.B6 = true := by kernel_rfl
def law22_Same.T6 : Bool × List (List Nat × List Nat) := (true, [([], []), ([0], [0]), ([], []), ([1, 2], [1, 2]), ([3], [3]), ([], []), ([5], [5]), ([], []), ([6, 7], [6, 7]), ([8], [8]), ([4, 9], [4, 9])])
def law22_Same.B6 : List Nat := [0, 1, 0, 7, 15, 0, 32, 0, 224, 480, 1023]
theorem law22_Same.tab6 : rtab .any (opsOf Tryz.f9 6) = law22_Same.T6 := by kernel_rfl
theorem law22_Same.bits6 : waitsOk law22_Same.T6.2 law22_Same.B6 = true := by kernel_rfl
theorem ref05_SameInts.calls (A A2 : Option Addr) (c c2 : Nat) (l : List Int) (w : World) (h : Kd.C (Kd.int .i64) w A l.length l) (h2 : Kd.C (Kd.int .i64) w A2 l.length l) : Ret 18 #[.slice A l.length c, .slice A2 l.length c2] w (.bool true) := by
  have H := Aside0.mk h
  have H2 := Aside0.mk h2
  have hl := h.2.1
  clear h h2
  have hu := Tryz.underlying38
  go_enter Tryz.func18, Tryz.ntmps18
  go_wp2
  go_loopg [5] l.length (fun k v5 wr => ∃ i : Nat, i + k = l.length ∧ v5 = .int .i64 i ∧ Below w.heap.size w wr)
  case atStart => exact ⟨0, by omega, by go_num, bl0⟩
  case round =>
    obtain ⟨i, hi, rfl, hbr⟩ := hrel
    by_cases ci : i < l.length
    · obtain ⟨ad, x, hA, hx, e0⟩ := elI (Kd.C_below H.out hbr) i ci
      obtain ⟨ad2, y, hA2, hy, u0⟩ := elI (Kd.C_below H2.out hbr) i ci
      obtain rfl : y = x := by rw [← hy.out, ← hx.out]
      subst hA
      subst hA2
      go_wp2_with fail
      refine st_ 9 (fun w' => w'.cell? (ad.add i) = some (.int .i64 y) ∧ w'.cell? (ad2.add i) = some (.int .i64 y) ∧ Below w.heap.size w w') [] ref05_SameInts.tab6 ref05_SameInts.bits6 ⟨e0, u0, below_drew1 hbr⟩ (h := fun HT HW hHeld => ?_)
      repeat (first | refine pn_ HT (h := ?_) | refine tn_ HT HW hHeld (h := ?_) | refine zn_ HT (h := ?_))
      refine dn_ HT (h := ?_)
      clear HT HW
      go_wp2
      go_roundg (l.length - i - 1)
      case measure => omega
      case rel => exact ⟨i + 1, by omega, by go_num, (hHeld.2.2)⟩
    · go_wp2
      go_ret
      exact ⟨rfl, hbr⟩
theorem ref17_SameLog.calls (A A2 : Option Addr) (c c2 : Nat) (l : List S38) (w : World) (h : Kd.C k38 w A l.length l) (h2 : Kd.C k38 w A2 l.length l) : Ret 19 #[.slice A l.length c, .slice A2 l.length c2] w (.bool true) := by
  have H := Aside0.mk h
  have H2 := Aside0.mk h2
  have hl := h.2.1
  clear h h2
  have hu := Tryz.underlying38
  go_enter Tryz.func19, Tryz.ntmps19
  go_wp2
  go_loopg [5] l.length (fun k v5 wr => ∃ i : Nat, i + k = l.length ∧ v5 = .int .i64 i ∧ Below w.heap.size w wr)
  case atStart => exact ⟨0, by omega, by go_num, bl0⟩
  case round =>
    obtain ⟨i, hi, rfl, hbr⟩ := hrel
    by_cases ci : i < l.length
    · obtain ⟨ad, x, hA, hx, e0, e1, e2⟩ := el38 (Kd.C_below H.out hbr) i ci
      obtain ⟨ad2, y, hA2, hy, u0, u1, u2⟩ := el38 (Kd.C_below H2.out hbr) i ci
      obtain rfl : y = x := by rw [← hy.out, ← hx.out]
      subst hA
      subst hA2
      go_wp2_with fail
      refine st_ 9 (fun w' => w'.cell? (ad.add (i * 3)) = some (.int .i64 y.f0) ∧ w'.cell? (⟨(ad.add (i * 3)).block, (ad.add (i * 3)).off + 1, none⟩) = some (.int .i64 y.f1) ∧ w'.cell? (⟨(ad.add (i * 3)).block, (ad.add (i * 3)).off + 2, none⟩) = some (.int .i64 y.f2) ∧ w'.cell? (ad2.add (i * 3)) = some (.int .i64 y.f0) ∧ w'.cell? (⟨(ad2.add (i * 3)).block, (ad2.add (i * 3)).off + 1, none⟩) = some (.int .i64 y.f1) ∧ w'.cell? (⟨(ad2.add (i * 3)).block, (ad2.add (i * 3)).off + 2, none⟩) = some (.int .i64 y.f2) ∧ Below w.heap.size w w') [] ref17_SameLog.tab6 ref17_SameLog.bits6 ⟨e0, e1, e2, u0, u1, u2, below_drew1 hbr⟩ (h := fun HT HW hHeld => ?_)
      repeat (first | refine pn_ HT (h := ?_) | refine tn_ HT HW hHeld (h := ?_) | refine zn_ HT (h := ?_))
      refine dn_ HT (h := ?_)
      clear HT HW
      go_wp2
      go_roundg (l.length - i - 1)
      case measure => omega
      case rel => exact ⟨i + 1, by omega, by go_num, (hHeld.2.2.2.2.2.2)⟩
    · go_wp2
      go_ret
      exact ⟨rfl, hbr⟩
theorem law22_Same.calls (x : S36) (cs1 cs2 : List Value) (w : World) (h1 : k36.K w x cs1) (h2 : k36.K w x cs2) : Ret 9 #[.agg cs1.toArray, .agg cs2.toArray] w (.bool true) := by
  obtain ⟨A1, c1, B1, d1, E1, e1, rfl, -, g10, -, g11, -, g12⟩ := k36_open h1
  obtain ⟨A2, c2, B2, d2, E2, e2, rfl, -, g20, -, g21, -, g22⟩ := k36_open h2
  have hu := Tryz.underlying36
  have hu2 := Tryz.underlying73
  have hl := g10.2.1
  have HA1 := Aside0.mk g10
  have HA2 := Aside0.mk g20
  have HB1 := Aside0.mk g11
  have HB2 := Aside0.mk g21
  have HE1 := Aside0.mk g12
  have HE2 := Aside0.mk g22
  clear h1 h2 g10 g20 g11 g21 g12 g22
  have hX0 := blk_al (blk_new w (.cells #[.slice A1 x.f0.length c1, .slice B1 x.f1.length d1, .slice E1 x.f2.length e1] 36)) (.cells #[.slice A2 x.f0.length c2, .slice B2 x.f1.length d2, .slice E2 x.f2.length e2] 36)
  have hY0 := blk_new (w.alloc (.cells #[.slice A1 x.f0.length c1, .slice B1 x.f1.length d1, .slice E1 x.f2.length e1] 36)) (.cells #[.slice A2 x.f0.length c2, .slice B2 x.f1.length d2, .slice E2 x.f2.length e2] 36)
  rw [show (w.alloc (.cells #[.slice A1 x.f0.length c1, .slice B1 x.f1.length d1, .slice E1 x.f2.length e1] 36)).heap.size = w.heap.size + 1 from alsz] at hY0
  have hb0 := @bl2 w (.cells #[.slice A1 x.f0.length c1, .slice B1 x.f1.length d1, .slice E1 x.f2.length e1] 36) (.cells #[.slice A2 x.f0.length c2, .slice B2 x.f1.length d2, .slice E2 x.f2.length e2] 36)
  go_enter Tryz.func9, Tryz.ntmps9
  go_wp2
  go_loopg [5] x.f0.length (fun k v5 wr => ∃ i : Nat, i + k = x.f0.length ∧ v5 = .int .i64 i ∧ wr.heap[w.heap.size]? = some (.cells #[.slice A1 x.f0.length c1, .slice B1 x.f1.length d1, .slice E1 x.f2.length e1] 36 (0, 0)) ∧ wr.heap[w.heap.size + 1]? = some (.cells #[.slice A2 x.f0.length c2, .slice B2 x.f1.length d2, .slice E2 x.f2.length e2] 36 (0, 0)) ∧ Below w.heap.size w wr)
  case atStart => exact ⟨0, by omega, by go_num, hX0, hY0, hb0⟩
  case round =>
    clear hX0 hY0 hb0
    obtain ⟨i, hi, rfl, hX, hY, hbr⟩ := hrel
    obtain ⟨z0, z1, z2⟩ := bx3 hX
    obtain ⟨y0, y1, y2⟩ := bx3 hY
    by_cases ci : i < x.f0.length
    · obtain ⟨ad, q, hA, hq, p0, p1, p2⟩ := el73 (Kd.C_below HA1.out hbr) i ci
      obtain ⟨ad2, y, hA2, hy, u0, u1, u2⟩ := el73 (Kd.C_below HA2.out hbr) i ci
      obtain rfl : y = q := by rw [← hy.out, ← hq.out]
      subst hA
      subst hA2
      go_wp2_with fail
      refine st_ 11 (fun w' => w'.cell? (⟨w.heap.size, 0, none⟩) = some (.slice (some ad) x.f0.length c1) ∧ w'.cell? (⟨w.heap.size + 1, 0, none⟩) = some (.slice (some ad2) x.f0.length c2) ∧ w'.cell? (ad.add (i * 3)) = some (.int .i64 y.f0) ∧ w'.cell? (⟨(ad.add (i * 3)).block, (ad.add (i * 3)).off + 1, none⟩) = some (.int .i64 y.f1) ∧ w'.cell? (⟨(ad.add (i * 3)).block, (ad.add (i * 3)).off + 2, none⟩) = some (.int .i64 y.f2) ∧ w'.cell? (ad2.add (i * 3)) = some (.int .i64 y.f0) ∧ w'.cell? (⟨(ad2.add (i * 3)).block, (ad2.add (i * 3)).off + 1, none⟩) = some (.int .i64 y.f1) ∧ w'.cell? (⟨(ad2.add (i * 3)).block, (ad2.add (i * 3)).off + 2, none⟩) = some (.int .i64 y.f2) ∧ Below w.heap.size w w') [] law22_Same.tab6 law22_Same.bits6 ⟨z0, y0, p0, p1, p2, u0, u1, u2, below_drew1 hbr⟩ (h := fun HT HW hHeld => ?_)
      repeat (first | refine pn_ HT (h := ?_) | refine tn_ HT HW hHeld (h := ?_) | refine zn_ HT (h := ?_))
      refine dn_ HT (h := ?_)
      have hXd := blk_below hX (below_drew1 bl0)
      have hYd := blk_below hY (below_drew1 bl0)
      clear HT HW
      go_wp2
      go_roundg (x.f0.length - i - 1)
      case measure => omega
      case rel => exact ⟨i + 1, by omega, by go_num, hXd, hYd, (hHeld.2.2.2.2.2.2.2.2)⟩
    · go_wp2_with fail
      refine (ref05_SameInts.calls B1 B2 d1 d2 x.f1 wr (Kd.C_below HB1.out hbr) (Kd.C_below HB2.out hbr)).mono ?_; rintro _ w3 ⟨rfl, hc3⟩
      have hbA := below_step hbr hc3
      have hX3 := blk_below hX hc3
      have hY3 := blk_below hY hc3
      clear z0 z1 z2 y0 y1 y2
      obtain ⟨z0, z1, z2⟩ := bx3 hX3
      obtain ⟨y0, y1, y2⟩ := bx3 hY3
      go_wp2_with fail
      refine (ref17_SameLog.calls E1 E2 e1 e2 x.f2 w3 (Kd.C_below HE1.out hbA) (Kd.C_below HE2.out hbA)).mono ?_; rintro _ w4 ⟨rfl, hc4⟩
      have hbB := below_step hbA hc4
      go_wp2
      go_ret
      exact ⟨rfl, hbB⟩
theorem law22_Great.calls (Ab : Option Addr) (cb : Nat) (b : List Int) (A : Option Addr) (c : Nat) (l : List S41) (w : World) (hC : Kd.C (Kd.int .u8) w Ab b.length b) (hb : ∀ x ∈ b, 0 ≤ x ∧ x ≤ 255) (hL : Kd.C k41 w A l.length l) :
    RetW 5 #[.slice Ab b.length cb, .slice A l.length c] w (fun g => g = false → fewP l ∧ b.length ≤ 500) := by
  have HC := Aside0.mk hC
  have HB := Aside0.mk hb
  have HL := Aside0.mk hL
  have hlb := hC.2.1
  have hu := Tryz.underlying53
  clear hC hb hL
  go_enter Tryz.func5, Tryz.ntmps5
  by_cases c5 : 500 < b.length
  · go_wp2
    go_ret
    exact ⟨bo (fun h => by simp at h), bl0⟩
  go_wp2_with fail
  refine (law21_Few.calls A c l w HL.out).mono ?_; rintro _ w2 ⟨⟨f, rfl, hf⟩, hb2⟩
  have HF := Aside0.mk hf
  clear hf
  cases f
  · go_wp2
    go_ret
    exact ⟨bo (fun h => by simp at h), hb2⟩
  have HFW := Aside0.mk (show fewP l ∧ b.length ≤ 500 from ⟨HF.out rfl, by omega⟩)
  go_wp2_with fail
  refine (ref19_Decode.calls Ab cb b w2 (Kd.C_below HC.out hb2) HB.out (by omega)).mono ?_; rintro _ w3 ⟨⟨ps, qs, A1, A2, c1, c2, a, n, rfl, hps, hpl, hql, hby⟩, hb3⟩
  have hbA := below_step hb2 hb3
  have HPS := Aside0.mk hps
  have HBY := Aside0.mk hby
  have hbB := below_alloc hbA (.cells #[.slice A1 ps.length c1, .slice A2 qs.length c2] 53)
  have hX3 := blk_new w3 (.cells #[.slice A1 ps.length c1, .slice A2 qs.length c2] 53)
  obtain ⟨z0, z1⟩ := bx2 hX3
  clear hps hby
  by_cases cn : n = 0
  · have cn2 : (n == 0) = true := by rw [cn]; rfl
    clear cn
    go_wp2_with fail
    refine (law21_Great.calls A1 A2 c1 c2 ps qs _ (C_alloc HPS.out _) hql HBY.out).mono ?_; rintro _ w4 ⟨⟨g, rfl, -⟩, hb4⟩
    have hbC := below_step hbB hb4
    go_wp2
    all_goals (go_ret; first | exact ⟨bo (fun _ => HFW.out), hbC⟩ | exact ⟨bo HFW.out, hbC⟩)
  · have cn2 : (n == 0) = false := by simpa using cn
    clear cn
    go_wp2
    all_goals (go_ret; first | exact ⟨bo (fun _ => HFW.out), hbB⟩ | exact ⟨bo HFW.out, hbB⟩)
def scrL (l : List S41) : List (List S46) := l.map (fun s => s.f0)
theorem asks_mkF (W : World) (ok : Nat → Prop) (x : List S46) {A : Option Addr} {c : Nat} (l : x.length ≤ c) (g : Kd.F k46 W ok A x.length x) : Kd.FK kAsks W ok x [.slice A x.length c] := fun W' hW => ⟨A, c, rfl, l, g W' hW⟩
theorem row39 : RowT kAsks 30 39 (.slice none 0 0) 24 := ⟨Tryz.underlying30, by kernel_rfl, rfl, by decide, by decide, by decide⟩
theorem el41F {w : World} {ok : Nat → Prop} {A : Option Addr} {l : List S41} (h : Kd.F k41 w ok A l.length l) (i : Nat) (hi : i < l.length) : ∃ (ad : Addr) (B : Option Addr) (d : Nat) (t : S41), A = some ad ∧ Aside0 (l[i] = t) ∧ w.cell? (ad.add i) = some (.slice B t.f0.length d) ∧ t.f0.length ≤ d ∧ Kd.F k46 w ok B t.f0.length t.f0 := by
  obtain ⟨ad, c, hA, hcl, hK, hc, -⟩ := Kd.F_get h z41 (i : Int) (by omega) (by omega)
  have hq : l.getD (i : Int).toNat z41 = l[i] := by rw [Int.toNat_natCast, List.getD_eq_getElem?_getD, List.getElem?_eq_getElem hi, Option.getD_some]
  rw [hq] at hK
  rw [Int.toNat_natCast] at hc
  obtain ⟨B, d, rfl, hl, hF⟩ := k41_openF hK
  have hc : ∀ j u, [Value.slice B l[i].f0.length d][j]? = some u → w.cell? (ad.add (i * 1 + j)) = some u := hc
  exact ⟨ad, B, d, l[i], hA, ⟨rfl⟩, by have := hc 0 _ rfl; rwa [Nat.add_zero, Nat.mul_one] at this, hl, hF⟩
theorem top_script.calls (A : Option Addr) (c : Nat) (l : List S41) (ok : Nat → Prop) (w : World) (h : Kd.F k41 w ok A l.length l) (hl : l.length ≤ 1000) :
    Calls Tryz.prog 8 #[.slice A l.length c] w fun e w' => ∃ A' c', e = .returned (.slice A' l.length c') ∧ Kd.F kAsks w' (nw ok w) A' l.length (scrL l) ∧ Below w.heap.size w w' := by
  have H := Aside0.mk (Kd.F_bound h)
  clear h
  have hu := Tryz.underlying41
  have hsl : (scrL l).length = l.length := List.length_map ..
  have HSL := Aside0.mk hsl
  clear hsl
  go_enter Tryz.func8, Tryz.ntmps8
  go_wp2
  go_loopg [3, 4] l.length (fun k v3 v4 wr => ∃ (i : Nat) (B : Option Addr) (d : Nat), i + k = l.length ∧ v4 = .int .i64 i ∧ v3 = .slice B i d ∧ Kd.N kAsks 39 wr w.heap.size (fun k => (ok k ∧ k < w.heap.size) ∨ w.heap.size ≤ k) (.slice B i d) ((scrL l).take i) ∧ Below w.heap.size w wr)
  case atStart => exact ⟨0, none, 0, by omega, by go_num, rfl, by rw [List.take_zero]; exact Kd.N_nil _ _ _ _ _, bl0⟩
  case round =>
    obtain ⟨i, B, d, hi, rfl, rfl, hN, hbr⟩ := hrel
    have HN := Aside0.mk hN
    have hsz := hbr.size
    clear hN
    by_cases ci : i < l.length
    · obtain ⟨ad, D, e, x, hA, hx, e0, hde, hF⟩ := el41F (Kd.F_below H.out hbr) i ci
      subst hA
      have HX := Aside0.mk (asks_mkF wr _ x.f0 hde hF)
      have HST := Aside0.mk (show (scrL l).take i ++ [x.f0] = (scrL l).take (i + 1) by rw [List.take_succ_eq_append_getElem (by rw [HSL.out]; exact ci)]; simp only [scrL, List.getElem_map, hx.out])
      clear hF
      go_wp2_with ((with_reducible refine gate_builtin (b := .append) (xs := #[.tmp 11, .tmp 17]) rfl ?_); at_builtin; refine stop_ ?_)
      refine ⟨?_⟩
      refine apN row39 (w0 := w) (cs := [.slice D x.f0.length e]) (p := x.f0) HN.out HX.out (fun k hk => ⟨Or.inl hk, fun he => by have := Kd.N_base HN.out k he.symm; have := hk.2; omega⟩) (fun k hk => Or.inr (by omega)) hbr (by omega) (by rw [List.length_take]; omega) (h := fun v6 w6 hN6 hb6 hg6 hat6 => ?_)
      rw [HST.out] at hN6
      obtain ⟨B2, d2, rfl⟩ := Kd.N_slice hN6
      have hlt : ((scrL l).take (i + 1)).length = i + 1 := by rw [List.length_take, HSL.out]; omega
      rw [hlt] at hN6 ⊢
      have HN6 := Aside0.mk hN6
      clear hN6
      go_wp2
      go_roundg (l.length - i - 1)
      case measure => omega
      case rel => exact ⟨i + 1, B2, d2, by omega, by go_num, rfl, HN6.out, hb6⟩
    · have hie : i = l.length := by omega
      subst hie
      have HR := Aside0.mk (show Kd.F kAsks wr (nw ok w) B l.length (scrL l) by have := HN.out; rw [List.take_of_length_le (by rw [HSL.out]; omega)] at this; exact Kd.F_mono (Kd.N_F this) (fun k hk => hk.elim (fun h => Or.inl h.1) Or.inr))
      go_wp2
      go_ret
      exact ⟨_, _, rfl, HR.out, hbr⟩
theorem fr_cell {w : World} {g : Nat} {cur : Array Value} {t : TypeId} {fr : Nat × Nat} (h : w.heap[g]? = some (.cells cur t fr)) (i : Nat) : w.cell? ⟨g, i, none⟩ = cur[i]? := by
  simp [World.cell?, h]
theorem litC2 {w : World} {g : Nat} {t : TypeId} {fr : Nat × Nat} {k : IntKind} (xs : List Int) (h : w.heap[g]? = some (.cells (xs.map (Value.int k)).toArray t fr)) (hl : xs.length ≤ 1000) : Kd.C (Kd.int k) w (some ⟨g, 0, none⟩) xs.length xs := by
  refine Kd.C_of_reads (enc := Value.int k) (d := (0 : Int)) (h1 := fun _ => rfl) ⟨rfl, by omega, fun hn => ⟨_, rfl, fun i hi => ?_⟩⟩
  have e : (⟨g, 0, none⟩ : Addr).add i = ⟨g, i, none⟩ := by unfold Addr.add; split <;> simp_all
  rw [e, fr_cell h i]
  simp [List.getD_eq_getElem?_getD, List.getElem?_eq_getElem hi]
theorem one_slot {v u : Value} {i : Nat} (h : [v][i]? = some u) : i = 0 ∧ u = v := by
  match i, h with
  | 0, h => exact ⟨rfl, (Option.some.inj h).symm⟩
  | i + 1, h => simp at h
theorem F_lit {α : Type} {d : Kd α} {W : World} {ok : Nat → Prop} {g : Nat} {e : TypeId} {inner : Array Value} (xs : List α) (hB : W.heap[g]? = some (.cells inner e (0, 0))) (hok : ok g) (hl : xs.length ≤ 1000)
    (rows : ∀ j p, xs[j]? = some p → ∃ c, Kd.FK d W ok p c ∧ c.length = d.sz ∧ ∀ i u, c[i]? = some u → inner[j * d.sz + i]? = some u) : Kd.F d W ok (some ⟨g, 0, none⟩) xs.length xs := by
  intro W' hW
  have hb : W'.heap[g]? = some (.cells inner e (0, 0)) := (hW g hok (blk_lt hB)).trans hB
  refine ⟨rfl, by omega, fun _ => ⟨⟨g, 0, none⟩, rfl, fun j p hj => ?_⟩⟩
  obtain ⟨c, hF, hcl, hc⟩ := rows j p hj
  have hadd : ∀ m, (⟨g, 0, none⟩ : Addr).add m = ⟨g, m, none⟩ := fun m => by unfold Addr.add; split <;> simp_all
  exact ⟨c, hcl, hF W' (fun k hk hlt => hW k hk hlt), fun i u hu => by rw [hadd, blk_cell hb]; exact hc i u hu⟩
def wb1 : List Int := [84, 75, 49, 1, 2, 1, 1, 1, 4, 4, 0, 0]
def wb2 : List Int := [84, 75, 49, 1, 2, 1, 1, 3, 4, 4, 0, 0]
def wc1 : S46 := ⟨0, 1, 0, 1, z44⟩
def ws1 : List (List S46) := [[wc1], []]
theorem w1c : (playK wb1 ws1).2 = 0 := by kernel_rfl
theorem w1d : (playK wb1 ws1).1.length = 1 := by kernel_rfl
theorem w1e : ((playK wb1 ws1).1.getD 0 z36).f2.length = 2 := by kernel_rfl
theorem w1f : (((playK wb1 ws1).1.getD 0 z36).f2.getD 1 z38) = ⟨0, 4, 0⟩ := by kernel_rfl
theorem w2c : (playK wb2 []).2 = 7 := by kernel_rfl
theorem top_works.calls (w : World) : Ret 6 #[] w (.bool true) := by
  have hB := blk_al (blk_al (blk_al (blk_new w (.cells #[.int .u8 84, .int .u8 75, .int .u8 49, .int .u8 1, .int .u8 2, .int .u8 1, .int .u8 1, .int .u8 1, .int .u8 4, .int .u8 4, .int .u8 0, .int .u8 0] 5 (12, 13))) (.cells #[.int .i64 0, .int .i64 1, .int .i64 0, .int .i64 1, .int .i64 0, .int .i64 0, .int .i64 0, .slice none 0 0] 46)) (.cells #[] 46)) (.cells #[.slice (some ⟨w.heap.size + 1, 0, none⟩) 1 1, .slice (some ⟨w.heap.size + 2, 0, none⟩) 0 0] 39)
  have hC := blk_al (blk_al (blk_new (w.alloc (.cells #[.int .u8 84, .int .u8 75, .int .u8 49, .int .u8 1, .int .u8 2, .int .u8 1, .int .u8 1, .int .u8 1, .int .u8 4, .int .u8 4, .int .u8 0, .int .u8 0] 5 (12, 13))) (.cells #[.int .i64 0, .int .i64 1, .int .i64 0, .int .i64 1, .int .i64 0, .int .i64 0, .int .i64 0, .slice none 0 0] 46)) (.cells #[] 46)) (.cells #[.slice (some ⟨w.heap.size + 1, 0, none⟩) 1 1, .slice (some ⟨w.heap.size + 2, 0, none⟩) 0 0] 39)
  have hE := blk_al (blk_new ((w.alloc (.cells #[.int .u8 84, .int .u8 75, .int .u8 49, .int .u8 1, .int .u8 2, .int .u8 1, .int .u8 1, .int .u8 1, .int .u8 4, .int .u8 4, .int .u8 0, .int .u8 0] 5 (12, 13))).alloc (.cells #[.int .i64 0, .int .i64 1, .int .i64 0, .int .i64 1, .int .i64 0, .int .i64 0, .int .i64 0, .slice none 0 0] 46)) (.cells #[] 46)) (.cells #[.slice (some ⟨w.heap.size + 1, 0, none⟩) 1 1, .slice (some ⟨w.heap.size + 2, 0, none⟩) 0 0] 39)
  have hS := blk_new (((w.alloc (.cells #[.int .u8 84, .int .u8 75, .int .u8 49, .int .u8 1, .int .u8 2, .int .u8 1, .int .u8 1, .int .u8 1, .int .u8 4, .int .u8 4, .int .u8 0, .int .u8 0] 5 (12, 13))).alloc (.cells #[.int .i64 0, .int .i64 1, .int .i64 0, .int .i64 1, .int .i64 0, .int .i64 0, .int .i64 0, .slice none 0 0] 46)).alloc (.cells #[] 46)) (.cells #[.slice (some ⟨w.heap.size + 1, 0, none⟩) 1 1, .slice (some ⟨w.heap.size + 2, 0, none⟩) 0 0] 39)
  have hb0 := below_alloc (@bl3 w (.cells #[.int .u8 84, .int .u8 75, .int .u8 49, .int .u8 1, .int .u8 2, .int .u8 1, .int .u8 1, .int .u8 1, .int .u8 4, .int .u8 4, .int .u8 0, .int .u8 0] 5 (12, 13)) (.cells #[.int .i64 0, .int .i64 1, .int .i64 0, .int .i64 1, .int .i64 0, .int .i64 0, .int .i64 0, .slice none 0 0] 46) (.cells #[] 46)) (.cells #[.slice (some ⟨w.heap.size + 1, 0, none⟩) 1 1, .slice (some ⟨w.heap.size + 2, 0, none⟩) 0 0] 39)
  rw [show (w.alloc (.cells #[.int .u8 84, .int .u8 75, .int .u8 49, .int .u8 1, .int .u8 2, .int .u8 1, .int .u8 1, .int .u8 1, .int .u8 4, .int .u8 4, .int .u8 0, .int .u8 0] 5 (12, 13))).heap.size = w.heap.size + 1 from alsz] at hC
  rw [show ((w.alloc (.cells #[.int .u8 84, .int .u8 75, .int .u8 49, .int .u8 1, .int .u8 2, .int .u8 1, .int .u8 1, .int .u8 1, .int .u8 4, .int .u8 4, .int .u8 0, .int .u8 0] 5 (12, 13))).alloc (.cells #[.int .i64 0, .int .i64 1, .int .i64 0, .int .i64 1, .int .i64 0, .int .i64 0, .int .i64 0, .slice none 0 0] 46)).heap.size = w.heap.size + 2 by rw [alsz, alsz]] at hE
  rw [show (((w.alloc (.cells #[.int .u8 84, .int .u8 75, .int .u8 49, .int .u8 1, .int .u8 2, .int .u8 1, .int .u8 1, .int .u8 1, .int .u8 4, .int .u8 4, .int .u8 0, .int .u8 0] 5 (12, 13))).alloc (.cells #[.int .i64 0, .int .i64 1, .int .i64 0, .int .i64 1, .int .i64 0, .int .i64 0, .int .i64 0, .slice none 0 0] 46)).alloc (.cells #[] 46)).heap.size = w.heap.size + 3 by rw [alsz, alsz, alsz]] at hS
  have hu := Tryz.underlying46
  have hu2 := Tryz.underlying38
  have hu3 := Tryz.underlying36
  have hu4 := Tryz.underlying22
  have hcv := Go.Lib.run_convert_bytes_const (P := Tryz.prog) w 22 5 #[.int .u8 84, .int .u8 75, .int .u8 49, .int .u8 1, .int .u8 2, .int .u8 1, .int .u8 1, .int .u8 1, .int .u8 4, .int .u8 4, .int .u8 0, .int .u8 0] 12 12 Tryz.underlying22 Tryz.underlying5
  go_enter Tryz.func6, Tryz.ntmps6
  go_wp2_with fail
  generalize ((((w.alloc (.cells #[.int .u8 84, .int .u8 75, .int .u8 49, .int .u8 1, .int .u8 2, .int .u8 1, .int .u8 1, .int .u8 1, .int .u8 4, .int .u8 4, .int .u8 0, .int .u8 0] 5 (12, 13))).alloc (.cells #[.int .i64 0, .int .i64 1, .int .i64 0, .int .i64 1, .int .i64 0, .int .i64 0, .int .i64 0, .slice none 0 0] 46)).alloc (.cells #[] 46)).alloc (.cells #[.slice (some ⟨w.heap.size + 1, 0, none⟩) 1 1, .slice (some ⟨w.heap.size + 2, 0, none⟩) 0 0] 39)) = wA at hB hC hE hS hb0 ⊢
  clear hcv
  have hCB : Kd.C (Kd.int .u8) wA (some ⟨w.heap.size, 0, none⟩) wb1.length wb1 := litC2 wb1 hB (by decide)
  have hF0 : Kd.F k46 wA (fun k => w.heap.size ≤ k) (some ⟨w.heap.size + 1, 0, none⟩) 1 [wc1] := F_lit [wc1] hC (by omega) (by decide) (fun j p hj => by
    have hj0 : j = 0 := by have := (List.getElem?_eq_some_iff.1 hj).1; simpa using this
    subst hj0
    obtain rfl : wc1 = p := by simpa using hj
    exact ⟨_, k46_mkF wA _ wc1 (A7 := none) (c7 := 0) (Nat.le_refl _) (Kd.F_nil _ _ _), rfl, fun i u hu => by rw [Nat.zero_mul, Nat.zero_add]; exact (List.getElem?_toArray ..).trans hu⟩)
  have hF1 : Kd.F k46 wA (fun k => w.heap.size ≤ k) (some ⟨w.heap.size + 2, 0, none⟩) 0 [] := F_lit ([] : List S46) hE (by omega) (by decide) (fun j p hj => by simp at hj)
  have hSF : Kd.F kAsks wA (fun k => w.heap.size ≤ k) (some ⟨w.heap.size + 3, 0, none⟩) ws1.length ws1 := F_lit ws1 hS (by omega) (by decide) (fun j p hj => by
    have hjl : j < 2 := (List.getElem?_eq_some_iff.1 hj).1
    have : j = 0 ∨ j = 1 := by omega
    rcases this with rfl | rfl
    · obtain rfl : [wc1] = p := Option.some.inj hj
      exact ⟨_, asks_mkF wA _ [wc1] (Nat.le_refl 1) hF0, rfl, fun i u hu => by obtain ⟨rfl, rfl⟩ := one_slot hu; rfl⟩
    · obtain rfl : ([] : List S46) = p := Option.some.inj hj
      exact ⟨_, asks_mkF wA _ [] (c := 0) (Nat.le_refl 0) hF1, rfl, fun i u hu => by obtain ⟨rfl, rfl⟩ := one_slot hu; rfl⟩)
  have K1 := world_Play.calls (some ⟨w.heap.size, 0, none⟩) 12 wb1 (some ⟨w.heap.size + 3, 0, none⟩) 2 ws1 (fun k => w.heap.size ≤ k) wA hCB (by decide) (by decide) hSF (by decide)
  clear hCB hF0 hF1 hSF hB hC hE hS
  refine K1.mono ?_; rintro _ w2 ⟨B, d, rfl, hBd, hV, hb2⟩
  clear K1
  have hbA := below_step hb0 hb2
  have hc1 := w1c
  have hc2 := w1d
  have hc3 := w1e
  have hc4 := w1f
  generalize playK wb1 ws1 = pk at hV hBd hc1 hc2 hc3 hc4 ⊢
  rw [hc2] at hV hBd ⊢
  rw [hc1]
  have HV := Aside0.mk (show Kd.F k36 w2 (nw (fun k => w.heap.size ≤ k) wA) B pk.1.length pk.1 by rw [hc2]; exact hV)
  clear hV hb0 hb2
  have hcv := Go.Lib.run_convert_bytes_const (P := Tryz.prog) w2 22 5 #[.int .u8 84, .int .u8 75, .int .u8 49, .int .u8 1, .int .u8 2, .int .u8 1, .int .u8 1, .int .u8 3, .int .u8 4, .int .u8 4, .int .u8 0, .int .u8 0] 12 12 Tryz.underlying22 Tryz.underlying5
  go_wp2_with fail
  have hB3 := blk_new w2 (.cells #[.int .u8 84, .int .u8 75, .int .u8 49, .int .u8 1, .int .u8 2, .int .u8 1, .int .u8 1, .int .u8 3, .int .u8 4, .int .u8 4, .int .u8 0, .int .u8 0] 5 (12, 13))
  have hb3 := below_alloc hbA (.cells #[.int .u8 84, .int .u8 75, .int .u8 49, .int .u8 1, .int .u8 2, .int .u8 1, .int .u8 1, .int .u8 3, .int .u8 4, .int .u8 4, .int .u8 0, .int .u8 0] 5 (12, 13))
  have HV3 := Aside0.mk (Kd.F_alloc HV.out (.cells #[.int .u8 84, .int .u8 75, .int .u8 49, .int .u8 1, .int .u8 2, .int .u8 1, .int .u8 1, .int .u8 3, .int .u8 4, .int .u8 4, .int .u8 0, .int .u8 0] 5 (12, 13)))
  have hCB : Kd.C (Kd.int .u8) (w2.alloc (.cells #[.int .u8 84, .int .u8 75, .int .u8 49, .int .u8 1, .int .u8 2, .int .u8 1, .int .u8 1, .int .u8 3, .int .u8 4, .int .u8 4, .int .u8 0, .int .u8 0] 5 (12, 13))) (some ⟨w2.heap.size, 0, none⟩) wb2.length wb2 := litC2 wb2 hB3 (by decide)
  have K2 := world_Play.calls (some ⟨w2.heap.size, 0, none⟩) 12 wb2 none 0 [] (fun _ => True) _ hCB (by decide) (by decide) (Kd.F_nil _ _ _) (by decide)
  refine K2.mono ?_; rintro _ w4 ⟨B2, d2, rfl, -, -, hb4⟩
  have hbC := below_step hb3 hb4
  have HV4 := Aside0.mk (Kd.F_below HV3.out hb4)
  rw [w2c]
  generalize (playK wb2 []).1.length = n2
  clear K2 hCB hB3 hcv
  obtain ⟨ad, A0, c0, A1, c1, A2, c2, v, hAd, hv, e0, e1, e2, -, -, -, -, l2, f2⟩ := el36F HV4.out 0 (by omega)
  subst hAd
  have hgd : pk.1.getD 0 z36 = v := by rw [List.getD_eq_getElem?_getD, List.getElem?_eq_getElem (by omega), Option.getD_some, hv.out]
  rw [hgd] at hc3 hc4
  obtain ⟨ad2, en, hA2, hen, u0, u1, u2⟩ := el38 (Kd.F_now f2) 1 (by omega)
  subst hA2
  have hen2 : en = ⟨0, 4, 0⟩ := by rw [← hc4, List.getD_eq_getElem?_getD, List.getElem?_eq_getElem (by omega), Option.getD_some, hen.out]
  subst hen2
  rw [hc3] at e2
  have HALL := Aside0.mk hbC
  rw [Nat.zero_mul, Addr.add_zero'] at e2
  rw [Nat.one_mul, show ad2.add 3 = ⟨ad2.block, ad2.off + 3, none⟩ from rfl] at u0 u1 u2
  dsimp only at u0 u1 u2
  clear hgd hc4 hc1 hb3 hbA f2 l2 e0 e1
  go_wp2
  go_ret
  exact ⟨rfl, HALL.out⟩
end Go.Proofs.YtmngaagojkihbaaGreat.FTop
