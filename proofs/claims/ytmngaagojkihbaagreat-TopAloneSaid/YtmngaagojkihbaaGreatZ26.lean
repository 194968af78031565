/- Contracts of functions that the statement TopAlone reaches, and plain lemmas. No condition. -/
import Derived.Test.YtmngaagojkihbaaGreatZ25
namespace Go.Proofs.YtmngaagojkihbaaGreat.FTop
open Go.RowKit Go.Proofs.YtmngaagojkihbaaGreatW.PrintWords Go.Proofs.YtmngaagojkihbaaGreatW.PrintLast Go.Proofs.YtmngaagojkihbaaGreatW.PrintMore
attribute [local go_sem] max2_int min2_int max_two min_two
set_option linter.unusedVariables false
set_option linter.unusedSimpArgs false
set_option maxHeartbeats 8000000
set_option maxRecDepth 100000
def ref19_Decode.T7 : Bool × List (List Nat × List Nat) := (true, [([], []), ([], []), ([0, 1], [0, 1]), ([2], [2]), ([], []), ([], []), ([4, 5], [4, 5]), ([6], [6]), ([3, 7], [3, 7])])
def ref19_Decode.B7 : List Nat := [0, 0, 3, 7, 0, 0, 48, 112, 255]
theorem ref19_Decode.tab7 : rtab .any (opsOf Tryz.f11 7) = ref19_Decode.T7 := by kernel_rfl
theorem ref19_Decode.bits7 : waitsOk ref19_Decode.T7.2 ref19_Decode.B7 = true := by kernel_rfl
def ref19_Decode.T28 : Bool × List (List Nat × List Nat) := (true, [([], []), ([0], [0]), ([], []), ([], []), ([2, 3], [2, 3]), ([], []), ([], []), ([6], [6]), ([5, 7, 4], [5, 7]), ([], []), ([], []), ([10], [10]), ([9, 11, 8], [9, 11]), ([4, 8, 12], [4, 8, 12]), ([13], [13]), ([1, 14, 12], [1, 14]), ([0, 1, 2, 3, 4, 5, 6, 7, 8, 9, 10, 11, 12, 13, 14, 15], []), ([16, 15, 15, 0, 1, 2, 3, 4, 5, 6, 7, 8, 9, 10, 11, 12, 13, 14, 15], [15, 16])])
def ref19_Decode.B28 : List Nat := [0, 1, 0, 0, 12, 0, 0, 64, 252, 0, 0, 1024, 4092, 8188, 16380, 32767, 65535, 131071]
theorem ref19_Decode.tab28 : rtab .any (opsOf Tryz.f11 28) = ref19_Decode.T28 := by kernel_rfl
theorem ref19_Decode.bits28 : waitsOk ref19_Decode.T28.2 ref19_Decode.B28 = true := by kernel_rfl
def ref19_Decode.T37 : Bool × List (List Nat × List Nat) := (true, [([], []), ([0], [0]), ([], []), ([], []), ([2, 3], [2, 3]), ([], []), ([], []), ([6], [6]), ([5, 7, 4], [5, 7]), ([], []), ([], []), ([10], [10]), ([9, 11, 8], [9, 11]), ([4, 8, 12], [4, 8, 12]), ([13], [13]), ([1, 14, 12], [1, 14]), ([0, 1, 2, 3, 4, 5, 6, 7, 8, 9, 10, 11, 12, 13, 14, 15], []), ([16, 15, 15, 0, 1, 2, 3, 4, 5, 6, 7, 8, 9, 10, 11, 12, 13, 14, 15], [15, 16])])
def ref19_Decode.B37 : List Nat := [0, 1, 0, 0, 12, 0, 0, 64, 252, 0, 0, 1024, 4092, 8188, 16380, 32767, 65535, 131071]
theorem ref19_Decode.tab37 : rtab .any (opsOf Tryz.f11 37) = ref19_Decode.T37 := by kernel_rfl
theorem ref19_Decode.bits37 : waitsOk ref19_Decode.T37.2 ref19_Decode.B37 = true := by kernel_rfl
def DecOut (w : World) (e : Ending) (w' : World) : Prop := ∃ (ps : List S87) (qs : List S91) (A1 A2 : Option Addr) (c1 c2 : Nat) (a n : Int), e = .returned (.tuple #[.agg #[.slice A1 ps.length c1, .slice A2 qs.length c2], .int .i64 a, .int .i64 n]) ∧ Kd.C k87 w' A1 ps.length ps ∧ ps.length ≤ 1000 ∧ qs.length ≤ 1000 ∧ ∀ p ∈ ps, bytP p
theorem decZ {w : World} {a n : Int} (w' : World) : DecOut w (.returned (.tuple #[.agg #[.slice none 0 0, .slice none 0 0], .int .i64 a, .int .i64 n])) w' := ⟨[], [], none, none, 0, 0, a, n, rfl, Kd.F_now (Kd.F_nil k87 w' (fun _ => True)), by simp, by simp, by simp⟩
def wantB (i : Nat) : Int := [84, 75, 49].getD i 0
set_option maxHeartbeats 40000000
theorem ref19_Decode.calls (A : Option Addr) (c : Nat) (b : List Int) (w : World) (h : Kd.C (Kd.int .u8) w A b.length b) (hb : ∀ x ∈ b, 0 ≤ x ∧ x ≤ 255) (hl : b.length ≤ 100000) :
    Calls Tryz.prog 11 #[.slice A b.length c] w fun e w' => DecOut w e w' ∧ Below w.heap.size w w' := by
  have H := Aside0.mk h
  have HB := Aside0.mk hb
  have hu := Tryz.underlying53
  have hu2 := Tryz.underlying87
  have hu3 := Tryz.underlying44
  have hu4 := Tryz.underlying89
  have hu5 := Tryz.underlying91
  have hu6 := Tryz.underlying85
  clear h hb
  have hat := fun (i : Int) (W : World) (h0 : 0 ≤ i) (hW : Below w.heap.size w W) => ref19_at.calls A c b i W (Kd.C_below H.out hW) HB.out hl h0
  have HAT := Aside0.mk hat
  clear hat
  have hR0 := blk_al (blk_new w (.cells #[.slice none 0 0, .slice none 0 0] 53)) (.cells #[.int .u8 84, .int .u8 75, .int .u8 49] 5)
  have hW0 := blk_new (w.alloc (.cells #[.slice none 0 0, .slice none 0 0] 53)) (.cells #[.int .u8 84, .int .u8 75, .int .u8 49] 5)
  rw [show (w.alloc (.cells #[.slice none 0 0, .slice none 0 0] 53)).heap.size = w.heap.size + 1 from alsz] at hW0
  have hb0 := @bl2 w (.cells #[.slice none 0 0, .slice none 0 0] 53) (.cells #[.int .u8 84, .int .u8 75, .int .u8 49] 5)
  go_enter Tryz.func11, Tryz.ntmps11
  go_wp2
  go_loopg [6] 3 (fun k v6 wr => ∃ i : Nat, i + k = 3 ∧ v6 = .int .i64 i ∧ wr.heap[w.heap.size]? = some (.cells #[.slice none 0 0, .slice none 0 0] 53 (0, 0)) ∧ wr.heap[w.heap.size + 1]? = some (.cells #[.int .u8 84, .int .u8 75, .int .u8 49] 5 (0, 0)) ∧ Below w.heap.size w wr)
  case atStart => exact ⟨0, by omega, by go_num, hR0, hW0, hb0⟩
  case round =>
    clear hR0 hW0 hb0
    obtain ⟨i, hi, rfl, hR, hW, hbr⟩ := hrel
    by_cases ci : i < 3
    · by_cases cl : i < b.length
      · obtain ⟨ad, x, hA, hx, e0⟩ := elI (Kd.C_below H.out hbr) i cl
        subst hA
        have hwc : wr.cell? ⟨w.heap.size + 1, i, none⟩ = some (.int .u8 (wantB i)) := by
          have : i = 0 ∨ i = 1 ∨ i = 2 := by omega
          rcases this with rfl | rfl | rfl <;> exact (blk_cell hW _).trans rfl
        by_cases cx : x = wantB i
        · have cx2 : (x == wantB i) = true := by simpa using cx
          clear cx
          go_wp2_with fail
          refine st_ 9 (fun w' => w'.cell? (ad.add i) = some (.int .u8 x) ∧ w'.cell? (⟨w.heap.size + 1, i, none⟩) = some (.int .u8 (wantB i)) ∧ Below w.heap.size w w') [] ref19_Decode.tab7 ref19_Decode.bits7 ⟨e0, hwc, below_drew1 hbr⟩ (h := fun HT HW hHeld => ?_)
          repeat (first | refine pn_ HT (h := ?_) | refine tn_ HT HW hHeld (h := ?_) | refine zn_ HT (h := ?_))
          refine dn_ HT (h := ?_)
          have hRd : wr.drew.heap[w.heap.size]? = some (.cells #[.slice none 0 0, .slice none 0 0] 53 (0, 0)) := hR
          have hWd : wr.drew.heap[w.heap.size + 1]? = some (.cells #[.int .u8 84, .int .u8 75, .int .u8 49] 5 (0, 0)) := hW
          clear HT HW
          go_wp2
          go_roundg (3 - i - 1)
          case measure => omega
          case rel => exact ⟨i + 1, by omega, by go_num, hRd, hWd, (hHeld.2.2)⟩
        · have cx2 : (x == wantB i) = false := by simpa using cx
          clear cx
          go_wp2_with fail
          refine st_ 9 (fun w' => w'.cell? (ad.add i) = some (.int .u8 x) ∧ w'.cell? (⟨w.heap.size + 1, i, none⟩) = some (.int .u8 (wantB i)) ∧ Below w.heap.size w w') [] ref19_Decode.tab7 ref19_Decode.bits7 ⟨e0, hwc, below_drew1 hbr⟩ (h := fun HT HW hHeld => ?_)
          repeat (first | refine pn_ HT (h := ?_) | refine tn_ HT HW hHeld (h := ?_) | refine zn_ HT (h := ?_))
          refine dn_ HT (h := ?_)
          have hRd : wr.drew.heap[w.heap.size]? = some (.cells #[.slice none 0 0, .slice none 0 0] 53 (0, 0)) := hR
          have hbd := (hHeld.2.2)
          clear HT HW
          go_wp2_with ((with_reducible refine gate_store (t := 53) (p := 2) (v := .tmp 39) rfl ?_); refine stop_ ?_)
          refine ⟨?_⟩
          refine stB (w0 := w) (base := w.heap.size) (seg := [.slice none 0 0, .slice none 0 0]) (cs' := [.slice none 0 0, .slice none 0 0]) hRd hbd (Nat.le_refl _) (h := fun wz hRz hbz hgz => ?_)
          go_wp2
          (try simp only [Exit.inBlock, Exit.then])
          refine bodyPost_ret (results_list (rs := [.cell 2 53, .tmp 3, .tmp 4]) rfl (by simp) (.cell _ 53 _ (0, 0) _ rfl hRz Tryz.underlying53 rfl (by kernel_rfl) (.tmp (.tmp .nil)))) rfl ?_
          exact ⟨decZ _, hbz⟩
      · 
        go_wp2_with ((with_reducible refine gate_store (t := 53) (p := 2) (v := .tmp 27) rfl ?_); refine stop_ ?_)
        refine ⟨?_⟩
        refine stB (w0 := w) (base := w.heap.size) (seg := [.slice none 0 0, .slice none 0 0]) (cs' := [.slice none 0 0, .slice none 0 0]) hR hbr (Nat.le_refl _) (h := fun wz hRz hbz hgz => ?_)
        go_wp2
        (try simp only [Exit.inBlock, Exit.then])
        refine bodyPost_ret (results_list (rs := [.cell 2 53, .tmp 3, .tmp 4]) rfl (by simp) (.cell _ 53 _ (0, 0) _ rfl hRz Tryz.underlying53 rfl (by kernel_rfl) (.tmp (.tmp .nil)))) rfl ?_
        exact ⟨decZ _, hbz⟩
    · obtain rfl : i = 3 := by omega
      have hG7 := blk_new wr (.cells #[.slice none 0 0, .slice none 0 0] 53)
      have hR7 := blk_al hR (.cells #[.slice none 0 0, .slice none 0 0] 53)
      have hb7 := below_alloc hbr (.cells #[.slice none 0 0, .slice none 0 0] 53)
      have hsw := hbr.size
      have hsw2 := blk_lt hW
      have hz7 : (wr.alloc (.cells #[.slice none 0 0, .slice none 0 0] 53)).heap.size = wr.heap.size + 1 := alsz
      go_wp2
      generalize wr.alloc (.cells #[.slice none 0 0, .slice none 0 0] 53) = w7 at hG7 hR7 hb7 hz7 ⊢
      generalize wr.heap.size = g7 at hG7 hsw hsw2 hz7 ⊢
      clear hR hW hbr
      go_loopg [8, 9] 256 (fun k v8 v9 wr => ∃ (n i : Nat) (AP : Option Addr) (cP : Nat) (ps : List S87), n + k = 256 ∧ v9 = .int .i64 n ∧ v8 = .int .i64 i ∧ i ≤ 400000 ∧ ps.length = n ∧ wr.heap[g7]? = some (.cells #[.slice AP n cP, .slice none 0 0] 53 (0, 0)) ∧ Kd.N k87 87 wr w.heap.size (fun k => g7 < k) (.slice AP n cP) ps ∧ (∀ p ∈ ps, bytP p) ∧ wr.heap[w.heap.size]? = some (.cells #[.slice none 0 0, .slice none 0 0] 53 (0, 0)) ∧ Below w.heap.size w wr)
      case atStart => exact ⟨0, 4, none, 0, [], rfl, by go_num, by go_num, by omega, rfl, hG7, Kd.N_nil _ _ _ _ _, by simp, hR7, hb7⟩
      case round =>
        clear hG7 hR7 hb7 hz7
        obtain ⟨n, i, AP, cP, ps, hnk, rfl, rfl, hi4, hpl, hG, hN, hby, hR, hbr⟩ := hrel
        have HN := Aside0.mk hN
        have HBY := Aside0.mk hby
        have hgl := blk_lt hG
        clear hN hby
        go_wp2_with fail
        refine (HAT.out 3 wr (by omega) hbr).mono ?_; rintro _ w3 ⟨⟨m, rfl, hm⟩, hc3⟩
        have hbA := below_step hbr hc3
        have hG3 := blk_below hG hc3
        have hR3 := blk_below hR hc3
        have hs3 := hc3.size
        have HN3 := Aside0.mk (Kd.N_below HN.out hc3)
        clear hG hR hc3 HN
        by_cases cm : n < m
        · by_cases cl : b.length < i
          · go_wp2_with ((with_reducible refine gate_store (t := 53) (p := 2) (v := .tmp 51) rfl ?_); refine stop_ ?_)
            refine ⟨?_⟩
            refine stB (w0 := w) (base := w.heap.size) (seg := [.slice none 0 0, .slice none 0 0]) (cs' := [.slice none 0 0, .slice none 0 0]) hR3 hbA (Nat.le_refl _) (h := fun wz hRz hbz hgz => ?_)
            go_wp2
            (try simp only [Exit.inBlock, Exit.then])
            refine bodyPost_ret (results_list (rs := [.cell 2 53, .tmp 3, .tmp 4]) rfl (by simp) (.cell _ 53 _ (0, 0) _ rfl hRz Tryz.underlying53 rfl (by kernel_rfl) (.tmp (.tmp .nil)))) rfl ?_
            exact ⟨decZ _, hbz⟩
          · go_wp2_with fail
            refine (HAT.out i w3 (by omega) hbA).mono ?_; rintro _ w4 ⟨⟨p1, rfl, hp1⟩, hc4⟩
            have hbB := below_step hbA hc4
            go_wp2_with fail
            refine (HAT.out (i + 1) w4 (by omega) hbB).mono ?_; rintro _ w5 ⟨⟨p2, rfl, hp2⟩, hc5⟩
            have hbC := below_step hbB hc5
            have hP5 := blk_new w5 (.cells #[.int .i64 (p1 : Nat), .int .i64 (p2 : Nat), .slice none 0 0] 87)
            have hG5 := blk_al (blk_below (blk_below hG3 hc4) hc5) (.cells #[.int .i64 (p1 : Nat), .int .i64 (p2 : Nat), .slice none 0 0] 87)
            have hR5 := blk_al (blk_below (blk_below hR3 hc4) hc5) (.cells #[.int .i64 (p1 : Nat), .int .i64 (p2 : Nat), .slice none 0 0] 87)
            have HN5 := Aside0.mk (Kd.N_below (Kd.N_bound (Kd.N_below (Kd.N_below HN3.out hc4) hc5)) (bl1 (o := (.cells #[.int .i64 (p1 : Nat), .int .i64 (p2 : Nat), .slice none 0 0] 87))))
            have hs4 := hc4.size
            have hs5 := hc5.size
            have hbD := below_alloc hbC (.cells #[.int .i64 (p1 : Nat), .int .i64 (p2 : Nat), .slice none 0 0] 87)
            have hz5 : (w5.alloc (.cells #[.int .i64 (p1 : Nat), .int .i64 (p2 : Nat), .slice none 0 0] 87)).heap.size = w5.heap.size + 1 := alsz
            clear hG3 hR3 HN3 hc4 hc5
            go_wp2_with fail
            refine (HAT.out (i + 2) _ (by omega) hbD).mono ?_; rintro _ w6 ⟨⟨nt, rfl, hnt⟩, hc6⟩
            have hP6 := blk_below hP5 hc6
            have hG6 := blk_below hG5 hc6
            have hR6 := blk_below hR5 hc6
            have HN6 := Aside0.mk (Kd.N_mono (ok' := fun k => g7 < k ∧ k < w5.heap.size) (Kd.N_below HN5.out hc6) (fun k hk => hk))
            have hbE := below_step hbD hc6
            have hs6 := hc6.size
            rw [hz5] at hs6
            clear hP5 hG5 hR5 HN5 hc6 hz5
            go_wp2
            obtain ⟨g10, hg10⟩ : ∃ g10, g10 = w5.heap.size := ⟨_, rfl⟩
            rw [← hg10] at hP6 HN6 hs6 hs5 ⊢
            clear hg10
            have hg710 : g7 < g10 := by omega
            go_loopg [8, 12] 256 (fun k v8 v12 wr => ∃ (kk i : Nat) (AT : Option Addr) (cT : Nat) (ts : List S44), kk + k = 256 ∧ v12 = .int .i64 kk ∧ v8 = .int .i64 i ∧ i ≤ 100003 + kk * 800 ∧ ts.length = kk ∧ wr.heap[g10]? = some (.cells #[.int .i64 (p1 : Nat), .int .i64 (p2 : Nat), .slice AT kk cT] 87 (0, 0)) ∧ Kd.N k44 44 wr w.heap.size (fun k => g10 < k) (.slice AT kk cT) ts ∧ (∀ t ∈ ts, ∀ s ∈ t.f3, bytS s) ∧ wr.heap[g7]? = some (.cells #[.slice AP n cP, .slice none 0 0] 53 (0, 0)) ∧ Kd.N k87 87 wr w.heap.size (fun k => g7 < k ∧ k < g10) (.slice AP n cP) ps ∧ wr.heap[w.heap.size]? = some (.cells #[.slice none 0 0, .slice none 0 0] 53 (0, 0)) ∧ Below w.heap.size w wr ∧ g10 < wr.heap.size)
            case atStart => exact ⟨0, i + 3, none, 0, [], rfl, by go_num, by go_num, by omega, rfl, hP6, Kd.N_nil _ _ _ _ _, by simp, hG6, HN6.out, hR6, hbE, by omega⟩
            case round =>
              clear hP6 hG6 HN6 hR6 hbE
              obtain ⟨kk, i, AT, cT, ts, hkk, rfl, rfl, hib, htl, hP, hT, hbyT, hG, hN, hR, hbr, hs10⟩ := hrel
              have HT1 := Aside0.mk hT
              have HN1 := Aside0.mk hN
              have HBT := Aside0.mk hbyT
              clear hT hN hbyT
              by_cases ck : kk < nt
              · go_wp2_with fail
                refine (HAT.out i wr (by omega) hbr).mono ?_; rintro _ v1 ⟨⟨t1, rfl, ht1⟩, d1⟩
                have hbF := below_step hbr d1
                go_wp2_with fail
                refine (HAT.out (i + 1) v1 (by omega) hbF).mono ?_; rintro _ v2 ⟨⟨t2, rfl, ht2⟩, d2⟩
                have hbG := below_step hbF d2
                go_wp2_with fail
                refine (HAT.out (i + 2) v2 (by omega) hbG).mono ?_; rintro _ v3 ⟨⟨t3, rfl, ht3⟩, d3⟩
                have hbH := below_step hbG d3
                have dd := (d1.trans (Below.mono d2 d1.size)).trans (Below.mono d3 (Nat.le_trans d1.size d2.size))
                have hT3 := blk_new v3 (.cells #[.int .i64 (t1 : Nat), .int .i64 (t2 : Nat), .int .i64 (t3 : Nat), .slice none 0 0] 44)
                have hP3 := blk_al (blk_below hP dd) (.cells #[.int .i64 (t1 : Nat), .int .i64 (t2 : Nat), .int .i64 (t3 : Nat), .slice none 0 0] 44)
                have hG3 := blk_al (blk_below hG dd) (.cells #[.int .i64 (t1 : Nat), .int .i64 (t2 : Nat), .int .i64 (t3 : Nat), .slice none 0 0] 44)
                have hR3 := blk_al (blk_below hR dd) (.cells #[.int .i64 (t1 : Nat), .int .i64 (t2 : Nat), .int .i64 (t3 : Nat), .slice none 0 0] 44)
                have HT3 := Aside0.mk (Kd.N_below (Kd.N_bound (Kd.N_below HT1.out dd)) (bl1 (o := (.cells #[.int .i64 (t1 : Nat), .int .i64 (t2 : Nat), .int .i64 (t3 : Nat), .slice none 0 0] 44))))
                have HN3 := Aside0.mk (Kd.N_below (Kd.N_below HN1.out dd) (bl1 (o := (.cells #[.int .i64 (t1 : Nat), .int .i64 (t2 : Nat), .int .i64 (t3 : Nat), .slice none 0 0] 44))))
                have hsd := dd.size
                have hbI := below_alloc hbH (.cells #[.int .i64 (t1 : Nat), .int .i64 (t2 : Nat), .int .i64 (t3 : Nat), .slice none 0 0] 44)
                have hzT : (v3.alloc (.cells #[.int .i64 (t1 : Nat), .int .i64 (t2 : Nat), .int .i64 (t3 : Nat), .slice none 0 0] 44)).heap.size = v3.heap.size + 1 := alsz
                clear hP hG hR HT1 HN1 d1 d2 d3 dd
                go_wp2_with fail
                refine (HAT.out (i + 3) _ (by omega) hbI).mono ?_; rintro _ v4 ⟨⟨ns, rfl, hns⟩, d4⟩
                have hT4 := blk_below hT3 d4
                have hP4 := blk_below hP3 d4
                have hG4 := blk_below hG3 d4
                have hR4 := blk_below hR3 d4
                have HT4 := Aside0.mk (Kd.N_mono (ok' := fun k => g10 < k ∧ k < v3.heap.size) (Kd.N_below HT3.out d4) (fun k hk => hk))
                have HN4 := Aside0.mk (Kd.N_below HN3.out d4)
                have hbJ := below_step hbI d4
                have hs4' := d4.size
                rw [hzT] at hs4'
                clear hT3 hP3 hG3 hR3 HT3 HN3 d4 hzT
                go_wp2
                obtain ⟨g13, hg13⟩ : ∃ g13, g13 = v3.heap.size := ⟨_, rfl⟩
                rw [← hg13] at hT4 HT4 hs4' hsd ⊢
                clear hg13
                have hg1013 : g10 < g13 := by omega
                go_loopg [8, 15] 256 (fun k v8 v15 wr => ∃ (q j : Nat) (AS : Option Addr) (cS : Nat) (ss : List S89), q + k = 256 ∧ v15 = .int .i64 q ∧ v8 = .int .i64 j ∧ j ≤ i + 4 + 3 * q ∧ ss.length = q ∧ wr.heap[g13]? = some (.cells #[.int .i64 (t1 : Nat), .int .i64 (t2 : Nat), .int .i64 (t3 : Nat), .slice AS q cS] 44 (0, 0)) ∧ Kd.N k89 89 wr w.heap.size (fun k => g13 < k) (.slice AS q cS) ss ∧ (∀ s ∈ ss, bytS s) ∧ wr.heap[g10]? = some (.cells #[.int .i64 (p1 : Nat), .int .i64 (p2 : Nat), .slice AT kk cT] 87 (0, 0)) ∧ Kd.N k44 44 wr w.heap.size (fun k => g10 < k ∧ k < g13) (.slice AT kk cT) ts ∧ wr.heap[g7]? = some (.cells #[.slice AP n cP, .slice none 0 0] 53 (0, 0)) ∧ Kd.N k87 87 wr w.heap.size (fun k => g7 < k ∧ k < g10) (.slice AP n cP) ps ∧ wr.heap[w.heap.size]? = some (.cells #[.slice none 0 0, .slice none 0 0] 53 (0, 0)) ∧ Below w.heap.size w wr ∧ g13 < wr.heap.size)
                case atStart => exact ⟨0, i + 4, none, 0, [], rfl, by go_num, by go_num, by omega, rfl, hT4, Kd.N_nil _ _ _ _ _, by simp, hP4, HT4.out, hG4, HN4.out, hR4, hbJ, by omega⟩
                case round =>
                  clear hT4 hP4 hG4 hR4 HT4 HN4 hbJ
                  obtain ⟨q, j, AS, cS, ss, hqk, rfl, rfl, hjb, hsl, hTb, hSs, hbyS, hP, hTt, hG, hNn, hR, hbr, hs13⟩ := hrel
                  have HSs := Aside0.mk hSs
                  have HTt := Aside0.mk hTt
                  have HNn := Aside0.mk hNn
                  have HBS := Aside0.mk hbyS
                  obtain ⟨z0, z1, z2, z3⟩ := bx4 hTb
                  clear hSs hTt hNn hbyS
                  by_cases cq : q < ns
                  · have HW1 := Aside0.mk (show wrap64 ((j : Int) + 1) = (j : Int) + 1 from w64 (by omega) (by omega))
                    have HW2 := Aside0.mk (show wrap64 ((j : Int) + 2) = (j : Int) + 2 from w64 (by omega) (by omega))
                    have hssz := hbr.size
                    have hownS : ∀ k, (Value.slice AS q cS).ownBlock = some k → g13 < k := fun k hk => HSs.out.1 k hk
                    go_wp2_with fail
                    refine st_ 18 (fun w' => w'.cell? (⟨g13, 3, none⟩) = some (.slice AS q cS) ∧ Below w.heap.size w w') [17] ref19_Decode.tab28 ref19_Decode.bits28 ⟨z3, below_drew1 hbr⟩ (h := fun HT HW hHeld => ?_)
                    repeat (first | refine pn_ HT (h := ?_) | refine tn_ HT HW hHeld (h := ?_) | refine zn_ HT (h := ?_))
                    refine on_ HT (h := fun K hK => ?_)
                    refine cn_ (Calls.mono (HAT.out j _ (by omega) (hHeld.2)) (fun e w' ⟨⟨a, he, ha⟩, h⟩ => ⟨_, he, ⟨a, rfl, ha⟩, h⟩)) (R := fun v w' => (∃ a : Nat, v = .int .i64 a ∧ a ≤ 255) ∧ Below wr.drew.heap.size wr.drew w') (h := fun v3' w3 hv3 => ?_)
                    obtain ⟨⟨s1, rfl, hs1⟩, hb3⟩ := hv3
                    have hE3 : Below wr.heap.size wr w3 := below_step (below_drew1 bl0) hb3
                    refine hK.out _ _ ⟨be_cell hb3 (hHeld.1), below_step (hHeld.2) hb3⟩ (fun hHeld => ?_)
                    refine nm_ (h := ?_)
                    repeat (first | refine pn_ HT (h := ?_) | refine tn_ HT HW hHeld (h := ?_) | refine zn_ HT (h := ?_))
                    refine on_ HT (h := fun K hK => ?_)
                    refine cn_ (Calls.mono (HAT.out (j + 1) _ (by omega) (hHeld.2)) (fun e w' ⟨⟨a, he, ha⟩, h⟩ => ⟨_, he, ⟨a, rfl, ha⟩, h⟩)) (R := fun v w' => (∃ a : Nat, v = .int .i64 a ∧ a ≤ 255) ∧ Below w3.heap.size w3 w') (hrun := by (have hw := HW1.out; go_simp; done)) (h := fun v4' w4 hv4 => ?_)
                    obtain ⟨⟨s2, rfl, hs2⟩, hb3⟩ := hv4
                    have hE4 := below_step hE3 hb3
                    refine hK.out _ _ ⟨be_cell hb3 (hHeld.1), below_step (hHeld.2) hb3⟩ (fun hHeld => ?_)
                    refine nm_ (h := ?_)
                    repeat (first | refine pn_ HT (h := ?_) | refine tn_ HT HW hHeld (h := ?_) | refine zn_ HT (h := ?_))
                    refine on_ HT (h := fun K hK => ?_)
                    refine cn_ (Calls.mono (HAT.out (j + 2) _ (by omega) (hHeld.2)) (fun e w' ⟨⟨a, he, ha⟩, h⟩ => ⟨_, he, ⟨a, rfl, ha⟩, h⟩)) (R := fun v w' => (∃ a : Nat, v = .int .i64 a ∧ a ≤ 255) ∧ Below w4.heap.size w4 w') (hrun := by (have hw := HW2.out; go_simp; done)) (h := fun v5' w5_ hv5 => ?_)
                    obtain ⟨⟨s3, rfl, hs3⟩, hb3⟩ := hv5
                    have hE5 := below_step hE4 hb3
                    refine hK.out _ _ ⟨be_cell hb3 (hHeld.1), below_step (hHeld.2) hb3⟩ (fun hHeld => ?_)
                    refine nm_ (h := ?_)
                    repeat (first | refine pn_ HT (h := ?_) | refine tn_ HT HW hHeld (h := ?_) | refine zn_ HT (h := ?_))
                    have hF5 := (hHeld.2)
                    have hs5_ := hE5.size
                    refine on_ HT (h := fun K hK => ?_)
                    refine ev_ (w1 := w5_.alloc (.cells #[.int .i64 (s1 : Nat), .int .i64 (s2 : Nat), .int .i64 (s3 : Nat)] 89)) (v := .slice (some ⟨w5_.heap.size, 0, none⟩) 1 1) (by go_simp; done) ?_
                    refine hK.out _ _ ⟨al_cell (hHeld.1) _, below_alloc (hHeld.2) _⟩ (fun hHeld => ?_)
                    refine nm_ (h := ?_)
                    repeat (first | refine pn_ HT (h := ?_) | refine tn_ HT HW hHeld (h := ?_) | refine zn_ HT (h := ?_))
                    refine on_ HT (h := fun K hK => ?_)
                    refine apN_step row89 (w0 := w) (base := w.heap.size) (cs := [.int .i64 (s1 : Nat), .int .i64 (s2 : Nat), .int .i64 (s3 : Nat)]) (p := (⟨(s1 : Nat), (s2 : Nat), (s3 : Nat)⟩ : S89)) (okp := fun _ => False) (v := .slice AS q cS) (Kd.N_below HSs.out hE5) (k89_mkF _ _ (⟨(s1 : Nat), (s2 : Nat), (s3 : Nat)⟩ : S89)) (fun k hk => hk.elim) (fun k hk => by omega) hF5 (by omega) (by omega) (h := fun v6 w6 hN6 hb6 hg6 hat6 => ?_)
                    have hT6 := blk_grown (blk_below hTb hE5) hg6 (fun he => by have := hownS _ he.symm; omega)
                    obtain ⟨x0_, x1_, x2_, x3_⟩ := bx4 hT6
                    have hs6_ : w5_.heap.size ≤ w6.heap.size := hg6.size
                    have hE6 : Below wr.heap.size wr w6 → True := fun _ => trivial
                    have hP6 := blk_grown (blk_below hP hE5) hg6 (fun he => by have := hownS _ he.symm; omega)
                    have hG6 := blk_grown (blk_below hG hE5) hg6 (fun he => by have := hownS _ he.symm; omega)
                    have hR6 := blk_grown (blk_below hR hE5) hg6 (fun he => by have := hownS _ he.symm; omega)
                    have HTt6 := Aside0.mk (Kd.N_grown (Kd.N_below HTt.out hE5) hg6 (fun k hk he => by have := hownS _ he.symm; omega))
                    have HNn6 := Aside0.mk (Kd.N_grown (Kd.N_below HNn.out hE5) hg6 (fun k hk he => by have := hownS _ he.symm; omega))
                    refine hK.out _ _ ⟨x3_, hb6⟩ (fun hHeld => ?_)
                    refine nm_ (h := ?_)
                    repeat (first | refine pn_ HT (h := ?_) | refine tn_ HT HW hHeld (h := ?_) | refine zn_ HT (h := ?_))
                    refine ln_ HT (h := fun K hK => ?_)
                    obtain ⟨AS2, cS2, rfl⟩ := Kd.N_slice hN6
                    have hl6 : (ss ++ [(⟨(s1 : Nat), (s2 : Nat), (s3 : Nat)⟩ : S89)]).length = q + 1 := by rw [List.length_append, List.length_singleton, hsl]
                    rw [hl6] at hN6 ⊢
                    refine stB_step (w0 := w) (base := w.heap.size) (seg := [.slice AS2 (q + 1) cS2]) (cs' := [.int .i64 (t1 : Nat), .int .i64 (t2 : Nat), .int .i64 (t3 : Nat), .slice AS2 (q + 1) cS2]) hT6 hb6 (by omega) (h := fun w7 hT7 hb7 hg7 => ?_)
                    refine hK.out _ _ ?_
                    repeat (first | refine pn_ HT (h := ?_) | refine zn_ HT (h := ?_))
                    refine dn_ HT (h := ?_)
                    have hP7 := blk_grown hP6 hg7 (fun he => by have h2 := Option.some.inj he; (try dsimp only at h2); omega)
                    have hG7 := blk_grown hG6 hg7 (fun he => by have h2 := Option.some.inj he; (try dsimp only at h2); omega)
                    have hR7 := blk_grown hR6 hg7 (fun he => by have h2 := Option.some.inj he; (try dsimp only at h2); omega)
                    have hN7 := Kd.N_grown hN6 hg7 (fun k hk he => by have h2 := Option.some.inj he; omega)
                    have HTt7 := Kd.N_grown HTt6.out hg7 (fun k hk he => by have h2 := Option.some.inj he; omega)
                    have HNn7 := Kd.N_grown HNn6.out hg7 (fun k hk he => by have h2 := Option.some.inj he; omega)
                    have hs7_ := hg7.size
                    have HBS7 := Aside0.mk (show ∀ s ∈ ss ++ [(⟨(s1 : Nat), (s2 : Nat), (s3 : Nat)⟩ : S89)], bytS s from fun s hs => by
                      rcases List.mem_append.1 hs with hs | hs
                      · exact HBS.out s hs
                      · rw [List.mem_singleton.1 hs]; exact ⟨by show (0 : Int) ≤ (s2 : Nat); omega, by show ((s2 : Nat) : Int) ≤ 255; omega, by show (0 : Int) ≤ (s3 : Nat); omega, by show ((s3 : Nat) : Int) ≤ 255; omega⟩)
                    have HALL := Aside0.mk (And.intro hN7 (And.intro HTt7 HNn7))
                    clear HT HW hHeld hK K hN6 hN7 HTt7 HNn7 HTt6 HNn6 hP6 hG6 hR6 hT6 hE5 hF5 hE3 hE4 hb6 hg6 hg7 hat6 x0_ x1_ x2_ x3_ z0 z1 z2 z3
                    go_wp2
                    go_roundg (256 - q - 1)
                    case measure => omega
                    case rel => exact ⟨q + 1, j + 3, AS2, cS2, _, by omega, by go_num, by go_num, by omega, hl6, hT7, HALL.out.1, HBS7.out, hP7, HALL.out.2.1, hG7, HALL.out.2.2, hR7, hb7, by omega⟩
                  · obtain ⟨y0, y1, y2⟩ := bx3 hP
                    have hssz := hbr.size
                    have hlS := (Kd.N_reads' HSs.out).2.1
                    have HKT := Aside0.mk (show Kd.FK k44 wr (fun k => g13 < k) (⟨(t1 : Nat), (t2 : Nat), (t3 : Nat), ss⟩ : S44) [.int .i64 (t1 : Nat), .int .i64 (t2 : Nat), .int .i64 (t3 : Nat), .slice AS q cS] from by
                      have K := k44_mkF wr (fun k => g13 < k) (⟨(t1 : Nat), (t2 : Nat), (t3 : Nat), ss⟩ : S44) (A3 := AS) (c3 := cS) (show ss.length ≤ cS by rw [hsl]; exact hlS) (show Kd.F k89 wr (fun k => g13 < k) AS ss.length ss by rw [hsl]; exact Kd.N_F HSs.out)
                      rw [show (S44.mk (t1 : Nat) (t2 : Nat) (t3 : Nat) ss).f3.length = q from hsl] at K
                      exact K)
                    have hownT : ∀ k, (Value.slice AT kk cT).ownBlock = some k → g10 < k ∧ k < g13 := fun k hk => HTt.out.1 k hk
                    go_wp2_with ((with_reducible refine gate_builtin (b := .append) (xs := #[.tmp 117, .tmp 119]) rfl ?_); at_builtin; refine stop_ ?_)
                    refine ⟨?_⟩
                    refine apN row44 (w0 := w) (base := w.heap.size) (cs := [.int .i64 (t1 : Nat), .int .i64 (t2 : Nat), .int .i64 (t3 : Nat), .slice AS q cS]) (p := (⟨(t1 : Nat), (t2 : Nat), (t3 : Nat), ss⟩ : S44)) (okp := fun k => g13 < k) (ok := fun k => g10 < k) (v := .slice AT kk cT) (Kd.N_mono HTt.out (fun k hk => hk.1)) HKT.out (fun k hk => ⟨by omega, fun he => by have := hownT k he.symm; omega⟩) (fun k hk => by omega) hbr (by omega) (by omega) (h := fun v6 w6 hN6 hb6 hg6 hat6 => ?_)
                    obtain ⟨AT2, cT2, rfl⟩ := Kd.N_slice hN6
                    have hl6 : (ts ++ [(⟨(t1 : Nat), (t2 : Nat), (t3 : Nat), ss⟩ : S44)]).length = kk + 1 := by rw [List.length_append, List.length_singleton, htl]
                    rw [hl6] at hN6 ⊢
                    have hP6 := blk_grown hP hg6 (fun he => by have := hownT _ he.symm; omega)
                    have hG6 := blk_grown hG hg6 (fun he => by have := hownT _ he.symm; omega)
                    have hR6 := blk_grown hR hg6 (fun he => by have := hownT _ he.symm; omega)
                    have HN6 := Aside0.mk hN6
                    have HNn6 := Aside0.mk (Kd.N_grown HNn.out hg6 (fun k hk he => by have := hownT _ he.symm; omega))
                    have hs6_ := hg6.size
                    clear hN6 y0 y1 y2 z0 z1 z2 z3
                    go_wp2_with ((with_reducible refine gate_store (t := 76) (p := 121) (v := .tmp 120) rfl ?_); refine stop_ ?_)
                    refine ⟨?_⟩
                    refine stB (w0 := w) (base := w.heap.size) (seg := [.slice AT2 (kk + 1) cT2]) (cs' := [.int .i64 (p1 : Nat), .int .i64 (p2 : Nat), .slice AT2 (kk + 1) cT2]) hP6 hb6 (by omega) (h := fun w7 hP7 hb7 hg7 => ?_)
                    have hG7 := blk_grown hG6 hg7 (fun he => by have h2 := Option.some.inj he; (try dsimp only at h2); omega)
                    have hR7 := blk_grown hR6 hg7 (fun he => by have h2 := Option.some.inj he; (try dsimp only at h2); omega)
                    have HN7 := Aside0.mk (Kd.N_grown HN6.out hg7 (fun k hk he => by have h2 := Option.some.inj he; omega))
                    have HNn7 := Aside0.mk (Kd.N_grown HNn6.out hg7 (fun k hk he => by have h2 := Option.some.inj he; omega))
                    have hs7_ := hg7.size
                    have HBT7 := Aside0.mk (show ∀ t ∈ ts ++ [(⟨(t1 : Nat), (t2 : Nat), (t3 : Nat), ss⟩ : S44)], ∀ s ∈ t.f3, bytS s from fun t ht => by
                      rcases List.mem_append.1 ht with ht | ht
                      · exact HBT.out t ht
                      · rw [List.mem_singleton.1 ht]; exact HBS.out)
                    clear hP6 hG6 hR6 HN6 HNn6 hg6 hg7 hb6 hat6
                    go_wp2
                    go_roundg (256 - kk - 1)
                    case measure => omega
                    case rel => exact ⟨kk + 1, j, AT2, cT2, _, by omega, by go_num, rfl, by omega, hl6, hP7, HN7.out, HBT7.out, hG7, HNn7.out, hR7, hb7, by omega⟩
              · obtain ⟨y0, y1, y2⟩ := bx3 hP
                obtain ⟨z0, z1⟩ := bx2 hG
                have hssz := hbr.size
                have hlT := (Kd.N_reads' HT1.out).2.1
                have HKP := Aside0.mk (show Kd.FK k87 wr (fun k => g10 < k) (⟨⟨(p1 : Nat), (p2 : Nat)⟩, ts⟩ : S87) [.int .i64 (p1 : Nat), .int .i64 (p2 : Nat), .slice AT kk cT] from by
                  have K := k87_mkF wr (fun k => g10 < k) (⟨⟨(p1 : Nat), (p2 : Nat)⟩, ts⟩ : S87) (A2 := AT) (c2 := cT) (show ts.length ≤ cT by rw [htl]; exact hlT) (show Kd.F k44 wr (fun k => g10 < k) AT ts.length ts by rw [htl]; exact Kd.N_F HT1.out)
                  rw [show (S87.mk ⟨(p1 : Nat), (p2 : Nat)⟩ ts).f1.length = kk from htl] at K
                  exact K)
                have hownP : ∀ k, (Value.slice AP n cP).ownBlock = some k → g7 < k ∧ k < g10 := fun k hk => HN1.out.1 k hk
                go_wp2_with ((with_reducible refine gate_builtin (b := .append) (xs := #[.tmp 123, .tmp 125]) rfl ?_); at_builtin; refine stop_ ?_)
                refine ⟨?_⟩
                refine apN row87 (w0 := w) (base := w.heap.size) (cs := [.int .i64 (p1 : Nat), .int .i64 (p2 : Nat), .slice AT kk cT]) (p := (⟨⟨(p1 : Nat), (p2 : Nat)⟩, ts⟩ : S87)) (okp := fun k => g10 < k) (ok := fun k => g7 < k) (v := .slice AP n cP) (Kd.N_mono HN1.out (fun k hk => hk.1)) HKP.out (fun k hk => ⟨by omega, fun he => by have := hownP k he.symm; omega⟩) (fun k hk => by omega) hbr (by omega) (by omega) (h := fun v6 w6 hN6 hb6 hg6 hat6 => ?_)
                obtain ⟨AP2, cP2, rfl⟩ := Kd.N_slice hN6
                have hl6 : (ps ++ [(⟨⟨(p1 : Nat), (p2 : Nat)⟩, ts⟩ : S87)]).length = n + 1 := by rw [List.length_append, List.length_singleton, hpl]
                rw [hl6] at hN6 ⊢
                have hG6 := blk_grown hG hg6 (fun he => by have := hownP _ he.symm; omega)
                have hR6 := blk_grown hR hg6 (fun he => by have := hownP _ he.symm; omega)
                have HN6 := Aside0.mk hN6
                clear hN6 y0 y1 y2 z0 z1
                go_wp2_with ((with_reducible refine gate_store (t := 50) (p := 127) (v := .tmp 126) rfl ?_); refine stop_ ?_)
                refine ⟨?_⟩
                refine stB (w0 := w) (base := w.heap.size) (seg := [.slice AP2 (n + 1) cP2]) (cs' := [.slice AP2 (n + 1) cP2, .slice none 0 0]) hG6 hb6 (by omega) (h := fun w7 hG7 hb7 hg7 => ?_)
                have hR7 := blk_grown hR6 hg7 (fun he => by have h2 := Option.some.inj he; (try dsimp only at h2); omega)
                have HN7 := Aside0.mk (Kd.N_grown HN6.out hg7 (fun k hk he => by have h2 := Option.some.inj he; omega))
                have HBP7 := Aside0.mk (show ∀ p ∈ ps ++ [(⟨⟨(p1 : Nat), (p2 : Nat)⟩, ts⟩ : S87)], bytP p from fun p hp => by
                  rcases List.mem_append.1 hp with hp | hp
                  · exact HBY.out p hp
                  · rw [List.mem_singleton.1 hp]; exact HBT.out)
                clear hG6 hR6 HN6 hg6 hg7 hb6 hat6
                go_wp2
                go_roundg (256 - n - 1)
                case measure => omega
                case rel => exact ⟨n + 1, i, AP2, cP2, _, by omega, by go_num, rfl, by omega, hl6, hG7, HN7.out, HBP7.out, hR7, hb7⟩
        · go_wp2_with fail
          refine (HAT.out i w3 (by omega) hbA).mono ?_; rintro _ w4 ⟨⟨np, rfl, hnp⟩, hc4⟩
          have hbB := below_step hbA hc4
          have hG4 := blk_below hG3 hc4
          have hR4 := blk_below hR3 hc4
          have HN4 := Aside0.mk (Kd.N_below HN3.out hc4)
          have hs4 := hc4.size
          clear hG3 hR3 HN3 hc4
          go_wp2
          obtain ⟨g9, hg9⟩ : ∃ g9, g9 = w4.heap.size := ⟨_, rfl⟩
          have hg79 : g7 < g9 := by omega
          go_loopg [8, 17] 256 (fun k v8 v17 wr => ∃ (q j : Nat) (AQ : Option Addr) (cQ : Nat) (qs : List S91), q + k = 256 ∧ v17 = .int .i64 q ∧ v8 = .int .i64 j ∧ j ≤ i + 1 + 3 * q ∧ qs.length = q ∧ wr.heap[g7]? = some (.cells #[.slice AP n cP, .slice AQ q cQ] 53 (0, 0)) ∧ Kd.N k91 91 wr w.heap.size (fun k => g9 ≤ k) (.slice AQ q cQ) qs ∧ Kd.N k87 87 wr w.heap.size (fun k => g7 < k ∧ k < g9) (.slice AP n cP) ps ∧ wr.heap[w.heap.size]? = some (.cells #[.slice none 0 0, .slice none 0 0] 53 (0, 0)) ∧ Below w.heap.size w wr ∧ g9 ≤ wr.heap.size)
          case atStart => exact ⟨0, i + 1, none, 0, [], rfl, by go_num, by go_num, by omega, rfl, hG4, Kd.N_nil _ _ _ _ _, Kd.N_mono (Kd.N_bound HN4.out) (fun k hk => ⟨hk.1, by rw [hg9]; exact hk.2⟩), hR4, hbB, by omega⟩
          case round =>
            clear hG4 hR4 HN4 hbB hg9 hs4
            obtain ⟨q, j, AQ, cQ, qs, hqk, rfl, rfl, hjb, hql, hG, hQ, hN, hR, hbr, hs9⟩ := hrel
            have HQ1 := Aside0.mk hQ
            have HN1 := Aside0.mk hN
            obtain ⟨z0, z1⟩ := bx2 hG
            have hssz := hbr.size
            clear hQ hN
            by_cases cq : q < np
            · have HW1 := Aside0.mk (show wrap64 ((j : Int) + 1) = (j : Int) + 1 from w64 (by omega) (by omega))
              have HW2 := Aside0.mk (show wrap64 ((j : Int) + 2) = (j : Int) + 2 from w64 (by omega) (by omega))
              have hownQ : ∀ k, (Value.slice AQ q cQ).ownBlock = some k → g9 ≤ k := fun k hk => HQ1.out.1 k hk
              go_wp2_with fail
              refine st_ 18 (fun w' => w'.cell? (⟨g7, 1, none⟩) = some (.slice AQ q cQ) ∧ Below w.heap.size w w') [17] ref19_Decode.tab37 ref19_Decode.bits37 ⟨z1, below_drew1 hbr⟩ (h := fun HT HW hHeld => ?_)
              repeat (first | refine pn_ HT (h := ?_) | refine tn_ HT HW hHeld (h := ?_) | refine zn_ HT (h := ?_))
              refine on_ HT (h := fun K hK => ?_)
              refine cn_ (Calls.mono (HAT.out j _ (by omega) (hHeld.2)) (fun e w' ⟨⟨a, he, ha⟩, h⟩ => ⟨_, he, ⟨a, rfl, ha⟩, h⟩)) (R := fun v w' => (∃ a : Nat, v = .int .i64 a ∧ a ≤ 255) ∧ Below wr.drew.heap.size wr.drew w') (h := fun v3' w3 hv3 => ?_)
              obtain ⟨⟨s1, rfl, hs1⟩, hb3⟩ := hv3
              have hE3 : Below wr.heap.size wr w3 := below_step (below_drew1 bl0) hb3
              refine hK.out _ _ ⟨be_cell hb3 (hHeld.1), below_step (hHeld.2) hb3⟩ (fun hHeld => ?_)
              refine nm_ (h := ?_)
              repeat (first | refine pn_ HT (h := ?_) | refine tn_ HT HW hHeld (h := ?_) | refine zn_ HT (h := ?_))
              refine on_ HT (h := fun K hK => ?_)
              refine cn_ (Calls.mono (HAT.out (j + 1) _ (by omega) (hHeld.2)) (fun e w' ⟨⟨a, he, ha⟩, h⟩ => ⟨_, he, ⟨a, rfl, ha⟩, h⟩)) (R := fun v w' => (∃ a : Nat, v = .int .i64 a ∧ a ≤ 255) ∧ Below w3.heap.size w3 w') (hrun := by (have hw := HW1.out; go_simp; done)) (h := fun v4' w4 hv4 => ?_)
              obtain ⟨⟨s2, rfl, hs2⟩, hb3⟩ := hv4
              have hE4 := below_step hE3 hb3
              refine hK.out _ _ ⟨be_cell hb3 (hHeld.1), below_step (hHeld.2) hb3⟩ (fun hHeld => ?_)
              refine nm_ (h := ?_)
              repeat (first | refine pn_ HT (h := ?_) | refine tn_ HT HW hHeld (h := ?_) | refine zn_ HT (h := ?_))
              refine on_ HT (h := fun K hK => ?_)
              refine cn_ (Calls.mono (HAT.out (j + 2) _ (by omega) (hHeld.2)) (fun e w' ⟨⟨a, he, ha⟩, h⟩ => ⟨_, he, ⟨a, rfl, ha⟩, h⟩)) (R := fun v w' => (∃ a : Nat, v = .int .i64 a ∧ a ≤ 255) ∧ Below w4.heap.size w4 w') (hrun := by (have hw := HW2.out; go_simp; done)) (h := fun v5' w5_ hv5 => ?_)
              obtain ⟨⟨s3, rfl, hs3⟩, hb3⟩ := hv5
              have hE5 := below_step hE4 hb3
              refine hK.out _ _ ⟨be_cell hb3 (hHeld.1), below_step (hHeld.2) hb3⟩ (fun hHeld => ?_)
              refine nm_ (h := ?_)
              repeat (first | refine pn_ HT (h := ?_) | refine tn_ HT HW hHeld (h := ?_) | refine zn_ HT (h := ?_))
              have hF5 := (hHeld.2)
              have hs5_ := hE5.size
              refine on_ HT (h := fun K hK => ?_)
              refine ev_ (w1 := w5_.alloc (.cells #[.int .i64 (s1 : Nat), .int .i64 (s2 : Nat), .int .i64 (s3 : Nat)] 91)) (v := .slice (some ⟨w5_.heap.size, 0, none⟩) 1 1) (by go_simp; done) ?_
              refine hK.out _ _ ⟨al_cell (hHeld.1) _, below_alloc (hHeld.2) _⟩ (fun hHeld => ?_)
              refine nm_ (h := ?_)
              repeat (first | refine pn_ HT (h := ?_) | refine tn_ HT HW hHeld (h := ?_) | refine zn_ HT (h := ?_))
              refine on_ HT (h := fun K hK => ?_)
              refine apN_step row91 (w0 := w) (base := w.heap.size) (cs := [.int .i64 (s1 : Nat), .int .i64 (s2 : Nat), .int .i64 (s3 : Nat)]) (p := (⟨(s1 : Nat), (s2 : Nat), (s3 : Nat)⟩ : S91)) (okp := fun _ => False) (v := .slice AQ q cQ) (Kd.N_below HQ1.out hE5) (k91_mkF _ _ (⟨(s1 : Nat), (s2 : Nat), (s3 : Nat)⟩ : S91)) (fun k hk => hk.elim) (fun k hk => by omega) hF5 (by omega) (by omega) (h := fun v6 w6 hN6 hb6 hg6 hat6 => ?_)
              have hs6_ : w5_.heap.size ≤ w6.heap.size := hg6.size
              have hG6 := blk_grown (blk_below hG hE5) hg6 (fun he => by have := hownQ _ he.symm; omega)
              have hR6 := blk_grown (blk_below hR hE5) hg6 (fun he => by have := hownQ _ he.symm; omega)
              have HNn6 := Aside0.mk (Kd.N_grown (Kd.N_below HN1.out hE5) hg6 (fun k hk he => by have := hownQ _ he.symm; omega))
              obtain ⟨x0_, x1_⟩ := bx2 hG6
              refine hK.out _ _ ⟨x1_, hb6⟩ (fun hHeld => ?_)
              refine nm_ (h := ?_)
              repeat (first | refine pn_ HT (h := ?_) | refine tn_ HT HW hHeld (h := ?_) | refine zn_ HT (h := ?_))
              refine ln_ HT (h := fun K hK => ?_)
              obtain ⟨AQ2, cQ2, rfl⟩ := Kd.N_slice hN6
              have hl6 : (qs ++ [(⟨(s1 : Nat), (s2 : Nat), (s3 : Nat)⟩ : S91)]).length = q + 1 := by rw [List.length_append, List.length_singleton, hql]
              rw [hl6] at hN6 ⊢
              refine stB_step (w0 := w) (base := w.heap.size) (seg := [.slice AQ2 (q + 1) cQ2]) (cs' := [.slice AP n cP, .slice AQ2 (q + 1) cQ2]) hG6 hb6 (by omega) (h := fun w7 hG7 hb7 hg7 => ?_)
              refine hK.out _ _ ?_
              repeat (first | refine pn_ HT (h := ?_) | refine zn_ HT (h := ?_))
              refine dn_ HT (h := ?_)
              have hR7 := blk_grown hR6 hg7 (fun he => by have h2 := Option.some.inj he; (try dsimp only at h2); omega)
              have HALL := Aside0.mk (And.intro (Kd.N_grown hN6 hg7 (fun k hk he => by have h2 := Option.some.inj he; omega)) (Kd.N_grown HNn6.out hg7 (fun k hk he => by have h2 := Option.some.inj he; omega)))
              have hs7_ := hg7.size
              clear HT HW hHeld hK K hN6 HNn6 hG6 hR6 hE5 hF5 hE3 hE4 hb6 hg6 hg7 hat6 x0_ x1_ z0 z1
              go_wp2
              go_roundg (256 - q - 1)
              case measure => omega
              case rel => exact ⟨q + 1, j + 3, AQ2, cQ2, _, by omega, by go_num, by go_num, by omega, hl6, hG7, HALL.out.1, HALL.out.2, hR7, hb7, by omega⟩
            · subst hql
              subst hpl
              have HCP := Aside0.mk (Kd.F_now (Kd.N_F HN1.out))
              have HCQ := Aside0.mk (Kd.F_now (Kd.N_F HQ1.out))
              by_cases c1 : b.length < j
              · go_wp2_with ((with_reducible refine gate_store (t := 53) (p := 2) (v := .tmp 161) rfl ?_); refine stop_ ?_)
                refine ⟨?_⟩
                refine stB (w0 := w) (base := w.heap.size) (seg := [.slice none 0 0, .slice none 0 0]) (cs' := [.slice none 0 0, .slice none 0 0]) hR hbr (Nat.le_refl _) (h := fun wz hRz hbz hgz => ?_)
                go_wp2
                (try simp only [Exit.inBlock, Exit.then])
                refine bodyPost_ret (results_list (rs := [.cell 2 53, .tmp 3, .tmp 4]) rfl (by simp) (.cell _ 53 _ (0, 0) _ rfl hRz Tryz.underlying53 rfl (by kernel_rfl) (.tmp (.tmp .nil)))) rfl ?_
                exact ⟨decZ _, hbz⟩
              · by_cases c2 : j < b.length
                · go_wp2_with ((with_reducible refine gate_store (t := 53) (p := 2) (v := .tmp 168) rfl ?_); refine stop_ ?_)
                  refine ⟨?_⟩
                  refine stB (w0 := w) (base := w.heap.size) (seg := [.slice none 0 0, .slice none 0 0]) (cs' := [.slice none 0 0, .slice none 0 0]) hR hbr (Nat.le_refl _) (h := fun wz hRz hbz hgz => ?_)
                  go_wp2
                  (try simp only [Exit.inBlock, Exit.then])
                  refine bodyPost_ret (results_list (rs := [.cell 2 53, .tmp 3, .tmp 4]) rfl (by simp) (.cell _ 53 _ (0, 0) _ rfl hRz Tryz.underlying53 rfl (by kernel_rfl) (.tmp (.tmp .nil)))) rfl ?_
                  exact ⟨decZ _, hbz⟩
                · go_wp2_with fail
                  refine (ref19_Right.calls AP AQ cP cQ ps qs wr HCP.out HCQ.out HBY.out (by omega) (by omega)).mono ?_; rintro _ w5 ⟨⟨bb, rfl, -⟩, hc5⟩
                  have hbC := below_step hbr hc5
                  have hR5 := blk_below hR hc5
                  have hG5 := blk_below hG hc5
                  have HN5 := Aside0.mk (Kd.N_below HN1.out hc5)
                  clear z0 z1
                  obtain ⟨z0, z1⟩ := bx2 hG5
                  cases bb
                  · go_wp2_with ((with_reducible refine gate_store (t := 53) (p := 2) (v := .tmp 173) rfl ?_); refine stop_ ?_)
                    refine ⟨?_⟩
                    refine stB (w0 := w) (base := w.heap.size) (seg := [.slice none 0 0, .slice none 0 0]) (cs' := [.slice none 0 0, .slice none 0 0]) hR5 hbC (Nat.le_refl _) (h := fun wz hRz hbz hgz => ?_)
                    go_wp2
                    (try simp only [Exit.inBlock, Exit.then])
                    refine bodyPost_ret (results_list (rs := [.cell 2 53, .tmp 3, .tmp 4]) rfl (by simp) (.cell _ 53 _ (0, 0) _ rfl hRz Tryz.underlying53 rfl (by kernel_rfl) (.tmp (.tmp .nil)))) rfl ?_
                    exact ⟨decZ _, hbz⟩
                  · go_wp2_with ((with_reducible refine gate_store (t := 53) (p := 2) (v := .tmp 174) rfl ?_); refine stop_ ?_)
                    refine ⟨?_⟩
                    refine stB (w0 := w) (base := w.heap.size) (seg := [.slice AP ps.length cP, .slice AQ qs.length cQ]) (cs' := [.slice AP ps.length cP, .slice AQ qs.length cQ]) hR5 hbC (Nat.le_refl _) (h := fun wz hRz hbz hgz => ?_)
                    have HNz := Aside0.mk (Kd.F_now (Kd.N_F (Kd.N_grown HN5.out hgz (fun k hk he => by have h2 := Option.some.inj he; omega))))
                    go_wp2
                    (try simp only [Exit.inBlock, Exit.then])
                    refine bodyPost_ret (results_list (rs := [.cell 2 53, .tmp 3, .tmp 4]) rfl (by simp) (.cell _ 53 _ (0, 0) _ rfl hRz Tryz.underlying53 rfl (by kernel_rfl) (.tmp (.tmp .nil)))) rfl ?_
                    exact ⟨⟨ps, qs, AP, AQ, cP, cQ, _, _, rfl, HNz.out, by omega, by omega, HBY.out⟩, hbz⟩
end Go.Proofs.YtmngaagojkihbaaGreat.FTop
