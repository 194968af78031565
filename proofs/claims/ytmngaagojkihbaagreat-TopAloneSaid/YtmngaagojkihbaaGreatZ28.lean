/- Contracts of functions that the statement TopAlone reaches, and plain lemmas. No condition. -/
import Derived.Test.YtmngaagojkihbaaGreatZ27
namespace Go.Proofs.YtmngaagojkihbaaGreat.FTop
open Go.RowKit Go.Proofs.YtmngaagojkihbaaGreatW.PrintWords Go.Proofs.YtmngaagojkihbaaGreatW.PrintLast Go.Proofs.YtmngaagojkihbaaGreatW.PrintMore
attribute [local go_sem] max2_int min2_int max_two min_two
set_option linter.unusedVariables false
set_option linter.unusedSimpArgs false
set_option maxHeartbeats 8000000
set_option maxRecDepth 100000
def top_Alone.T25 : Bool × List (List Nat × List Nat) := (true, [([], []), ([0], [0]), ([1], [1]), ([2], [2]), ([2], [2]), ([4, 2], [2, 4]), ([3, 5, 2], [2, 3, 5]), ([2, 6], [2, 6]), ([7, 2], [7]), ([8], [8]), ([8], [8]), ([9, 10, 8], [8, 9, 10]), ([11, 8], [8, 11]), ([8], [8]), ([8], [8]), ([13, 14, 8], [8, 13, 14]), ([15, 8], [8, 15]), ([12, 16, 8, 8], [8, 12, 16]), ([8, 17], [8, 17]), ([18, 17], [18]), ([19, 19], [19]), ([19, 20], [19, 20]), ([21, 20, 0, 1, 2, 3, 4, 5, 6, 7, 8, 9, 10, 11, 12, 13, 14, 15, 16, 17, 18, 19, 20, 21], [21])])
def top_Alone.B25 : List Nat := [0, 1, 3, 7, 7, 23, 63, 127, 255, 511, 511, 2047, 4095, 511, 511, 25087, 57855, 131071, 262143, 524287, 1048575, 2097151, 4194303]
theorem top_Alone.tab25 : rtab .any (opsOf Tryz.f4 25) = top_Alone.T25 := by kernel_rfl
theorem top_Alone.bits25 : waitsOk top_Alone.T25.2 top_Alone.B25 = true := by kernel_rfl
theorem row46 : RowT k46 39 46 (.agg #[.int .i64 0, .int .i64 0, .int .i64 0, .int .i64 0, .int .i64 0, .int .i64 0, .int .i64 0, .slice none 0 0]) 80 := ⟨Tryz.underlying39, by kernel_rfl, rfl, by decide, by decide, by decide⟩
theorem row41 : RowT k41 23 41 (.agg #[.slice none 0 0]) 24 := ⟨Tryz.underlying23, by kernel_rfl, rfl, by decide, by decide, by decide⟩
theorem row5 : RowT (Kd.int .u8) 22 5 (.int .u8 0) 1 := ⟨Tryz.underlying22, by kernel_rfl, rfl, by decide, by decide, by decide⟩
def ownC (p : Int) (c : S46) : Bool := decide (c.f0 = p) || decide (c.f1 = 2)
def othC (p : Int) (c : S46) : Bool := !decide (c.f0 = p) && !decide (c.f1 = 2)
def mixAt (p : Int) (a b : List S46) : List S46 := a.filter (ownC p) ++ b.filter (othC p)
def mixL (p : Int) (l m : List S41) : List S41 := (List.range l.length).map (fun t => ⟨mixAt p (l.getD t z41).f0 (m.getD t z41).f0⟩)
theorem mixL_len (p : Int) (l m : List S41) : (mixL p l m).length = l.length := by simp [mixL]
theorem mixL_step (p : Int) (l m : List S41) (t : Nat) (ht : t < l.length) : (mixL p l m).take t ++ [⟨mixAt p (l.getD t z41).f0 (m.getD t z41).f0⟩] = (mixL p l m).take (t + 1) := by
  rw [List.take_succ_eq_append_getElem (by rw [mixL_len]; exact ht)]; simp [mixL]
theorem filt_step {α : Type} (P : α → Bool) (l : List α) (j : Nat) (hj : j < l.length) : (l.take (j + 1)).filter P = (l.take j).filter P ++ (if P l[j] then [l[j]] else []) := by
  rw [List.take_succ_eq_append_getElem hj, List.filter_append]
  congr 1
  by_cases h : P l[j] <;> simp [h]
def AloneP (b : List Int) (l m : List S41) (p : Int) : Prop := fewP l → fewP m → (playK b (scrL l)).2 = (playK b (scrL (mixL p l m))).2 ∧ (playK b (scrL l)).1.length = (playK b (scrL (mixL p l m))).1.length ∧ (0 ≤ p → p < (playK b (scrL l)).1.length → (playK b (scrL l)).1.getD p.toNat z36 = (playK b (scrL (mixL p l m))).1.getD p.toNat z36)
set_option maxHeartbeats 40000000
theorem top_Alone.calls (Ab : Option Addr) (cb : Nat) (b : List Int) (A : Option Addr) (c : Nat) (l : List S41) (A2 : Option Addr) (c2 : Nat) (m : List S41) (p : Int) (w : World) (hC : Kd.C (Kd.int .u8) w Ab b.length b) (hb0 : ∀ x ∈ b, 0 ≤ x ∧ x ≤ 255) (hL : Kd.C k41 w A l.length l) (hM : Kd.C k41 w A2 m.length m) (hlaw : AloneP b l m p) :
    Ret 4 #[.slice Ab b.length cb, .slice A l.length c, .slice A2 m.length c2, .int .i64 p] w (.bool true) := by
  have hu := Tryz.underlying46
  have hu2 := Tryz.underlying41
  have hu3 := Tryz.underlying36
  have HC := Aside0.mk hC
  have HB := Aside0.mk hb0
  have HL := Aside0.mk hL
  have HM := Aside0.mk hM
  have HLAW := Aside0.mk hlaw
  have hbl := hC.2.1
  have hll0 := hL.2.1
  have hml0 := hM.2.1
  have HLF := Aside0.mk (Kd.C_F k41_heap hL)
  have HMF := Aside0.mk (Kd.C_F k41_heap hM)
  have HCF := Aside0.mk (Kd.C_F (Kd.heap_int .u8) hC)
  clear hC hb0 hL hM hlaw
  go_enter Tryz.func4, Tryz.ntmps4
  go_wp2_with fail
  refine (law22_Great.calls Ab cb b A c l w HC.out HB.out HL.out).mono ?_; rintro _ w2 ⟨⟨g, rfl, hg⟩, hb2⟩
  have HG := Aside0.mk hg
  clear hg
  cases g
  · have HFL := Aside0.mk (HG.out rfl)
    go_wp2_with fail
    refine (law22_Great.calls Ab cb b A2 c2 m w2 (Kd.C_below HC.out hb2) HB.out (Kd.C_below HM.out hb2)).mono ?_; rintro _ w3 ⟨⟨g, rfl, hg⟩, hb3⟩
    have hbA := below_step hb2 hb3
    have HG2 := Aside0.mk hg
    clear hg hb3 hb2
    cases g
    · have HFM := Aside0.mk (HG2.out rfl)
      have hl100 := HFL.out.1.1
      have hm100 := HFM.out.1.1
      have hb500 := HFL.out.2
      go_wp2
      go_loopg [9, 10] l.length (fun k v9 v10 wr => ∃ (t : Nat) (A9 : Option Addr) (c9 : Nat), t + k = l.length ∧ v10 = .int .i64 t ∧ v9 = .slice A9 t c9 ∧ Kd.N k41 41 wr w.heap.size (fun _ => True) (.slice A9 t c9) ((mixL p l m).take t) ∧ Below w.heap.size w wr)
      case atStart => exact ⟨0, none, 0, by omega, by go_num, rfl, by rw [List.take_zero]; exact Kd.N_nil _ _ _ _ _, hbA⟩
      case round =>
        clear hbA
        obtain ⟨t, A9, c9, ht, rfl, rfl, hN9, hbr⟩ := hrel
        have HN9 := Aside0.mk (Kd.N_bound hN9)
        clear hN9
        by_cases ct : t < l.length
        · obtain ⟨ad, Bx, dx, x, hAd, hx, e0, hdx, hFx⟩ := el41F HLF.out t ct
          subst hAd
          have HE0 := Aside0.mk e0
          have e0r := be_cell hbr e0
          have HFx := Aside0.mk hFx
          have hx10 : x.f0.length ≤ 10 := HFL.out.1.2 x (by rw [← hx.out]; exact List.getElem_mem ct)
          have hgx : l.getD t z41 = x := by rw [List.getD_eq_getElem?_getD, List.getElem?_eq_getElem ct, Option.getD_some, hx.out]
          have HST := Aside0.mk (mixL_step p l m t ct)
          rw [hgx] at HST
          have hsz := hbr.size
          clear hFx e0 hgx
          go_wp2
          obtain ⟨gR, hgR⟩ : ∃ gR, gR = wr.heap.size := ⟨_, rfl⟩
          have HN9b := Aside0.mk (Kd.N_mono (ok' := fun k => k < gR) HN9.out (fun k hk => by rw [hgR]; exact hk.2))
          have hgR0 : w.heap.size ≤ gR := by omega
          have hgR1 : gR ≤ wr.heap.size := by omega
          clear hgR HN9
          go_loopg [11, 12] x.f0.length (fun k v11 v12 wr => ∃ (j : Nat) (AS : Option Addr) (cS : Nat), j + k = x.f0.length ∧ v12 = .int .i64 j ∧ v11 = .slice AS ((x.f0.take j).filter (ownC p)).length cS ∧ Kd.N k46 46 wr w.heap.size (fun k => k < w.heap.size ∨ gR ≤ k) (.slice AS ((x.f0.take j).filter (ownC p)).length cS) ((x.f0.take j).filter (ownC p)) ∧ Kd.N k41 41 wr w.heap.size (fun k => k < gR) (.slice A9 t c9) ((mixL p l m).take t) ∧ Below w.heap.size w wr ∧ gR ≤ wr.heap.size)
          case atStart => exact ⟨0, none, 0, by omega, by go_num, rfl, Kd.N_nil _ _ _ _ _, HN9b.out, hbr, hgR1⟩
          case round =>
            clear hbr HN9b e0r hgR1 hsz
            obtain ⟨j, AS, cS, hj, rfl, rfl, hNS, hN9, hbr, hgr⟩ := hrel
            have HNS := Aside0.mk hNS
            have HN9 := Aside0.mk hN9
            clear hNS hN9
            by_cases cj : j < x.f0.length
            · have e0r := be_cell hbr HE0.out
              obtain ⟨adc, A7, c7, cm, hAc, hcm, y0, y1, y2, y3, y4, y5, y6, y7, l7, g7⟩ := el46F HFx.out j cj
              subst hAc
              have HCM := Aside0.mk (k46_mkF _ _ cm l7 g7)
              have b0 := be_cell hbr y0
              have b1 := be_cell hbr y1
              have b2 := be_cell hbr y2
              have b3 := be_cell hbr y3
              have b4 := be_cell hbr y4
              have b5 := be_cell hbr y5
              have b6 := be_cell hbr y6
              have b7 := be_cell hbr y7
              have hbm := below_alloc hbr (.cells #[.int .i64 cm.f0, .int .i64 cm.f1, .int .i64 cm.f2, .int .i64 cm.f3, .int .i64 cm.f4.f0, .int .i64 cm.f4.f1, .int .i64 cm.f4.f2, .slice A7 cm.f4.f3.length c7] 46)
              have hownS : ∀ k, (Value.slice AS ((x.f0.take j).filter (ownC p)).length cS).ownBlock = some k → gR ≤ k := fun k hk => (HNS.out.1 k hk).elim (fun h => by have := Kd.N_base HNS.out k hk; omega) (fun h => h)
              have hfs := filt_step (ownC p) x.f0 j cj
              rw [hcm.out] at hfs
              clear y0 y1 y2 y3 y4 y5 y6 y7 l7 g7 hcm
              by_cases q1 : cm.f0 = p
              · have HSTJ := Aside0.mk (show ((x.f0.take j).filter (ownC p)) ++ [cm] = ((x.f0.take (j + 1)).filter (ownC p)) from by rw [hfs, show ownC p cm = true by simp [ownC, q1], if_pos rfl])
                have f1 : (cm.f0 == p) = true := by simpa using q1
                clear q1 hfs
                go_wp2_with ((with_reducible refine gate_builtin (b := .append) (xs := #[.tmp 62, .tmp 64]) rfl ?_); at_builtin; refine stop_ ?_)
                refine ⟨?_⟩
                refine apN row46 (w0 := w) (base := w.heap.size) (cs := [.int .i64 cm.f0, .int .i64 cm.f1, .int .i64 cm.f2, .int .i64 cm.f3, .int .i64 cm.f4.f0, .int .i64 cm.f4.f1, .int .i64 cm.f4.f2, .slice A7 cm.f4.f3.length c7]) (p := cm) (okp := fun k => k < w.heap.size) (Kd.N_below HNS.out (bl1 (o := (.cells #[.int .i64 cm.f0, .int .i64 cm.f1, .int .i64 cm.f2, .int .i64 cm.f3, .int .i64 cm.f4.f0, .int .i64 cm.f4.f1, .int .i64 cm.f4.f2, .slice A7 cm.f4.f3.length c7] 46)))) (Kd.FK_below HCM.out hbm) (fun k hk => ⟨Or.inl hk, fun he => by have := Kd.N_base HNS.out k he.symm; omega⟩) (fun k hk => Or.inr (by rw [alsz] at hk; omega)) hbm (by rw [alsz]; omega) (by have := (List.length_filter_le (ownC p) (x.f0.take j)); rw [List.length_take] at this; omega) (h := fun v6 w6 hN6 hb6 hg6 hat6 => ?_)
                have HN9c := Aside0.mk (Kd.N_grown (Kd.N_below HN9.out (bl1 (o := (.cells #[.int .i64 cm.f0, .int .i64 cm.f1, .int .i64 cm.f2, .int .i64 cm.f3, .int .i64 cm.f4.f0, .int .i64 cm.f4.f1, .int .i64 cm.f4.f2, .slice A7 cm.f4.f3.length c7] 46)))) hg6 (fun k hk he => by have h1 := hownS k he.symm; omega))
                have hs6 := hg6.size
                rw [alsz] at hs6
                rw [HSTJ.out] at hN6
                obtain ⟨AS2, cS2, rfl⟩ := Kd.N_slice hN6
                have HN6 := Aside0.mk hN6
                clear hN6
                go_wp2
                go_roundg (x.f0.length - j - 1)
                case measure => omega
                case rel => exact ⟨j + 1, AS2, cS2, by omega, by go_num, rfl, HN6.out, HN9c.out, hb6, by omega⟩
              · by_cases q2 : cm.f1 = 2
                · have HSTJ := Aside0.mk (show ((x.f0.take j).filter (ownC p)) ++ [cm] = ((x.f0.take (j + 1)).filter (ownC p)) from by rw [hfs, show ownC p cm = true by simp [ownC, q1, q2], if_pos rfl])
                  have f1 : (cm.f0 == p) = false := by simpa using q1
                  have f2 : (cm.f1 == 2) = true := by simpa using q2
                  clear q1 q2 hfs
                  go_wp2_with ((with_reducible refine gate_builtin (b := .append) (xs := #[.tmp 62, .tmp 64]) rfl ?_); at_builtin; refine stop_ ?_)
                  refine ⟨?_⟩
                  refine apN row46 (w0 := w) (base := w.heap.size) (cs := [.int .i64 cm.f0, .int .i64 cm.f1, .int .i64 cm.f2, .int .i64 cm.f3, .int .i64 cm.f4.f0, .int .i64 cm.f4.f1, .int .i64 cm.f4.f2, .slice A7 cm.f4.f3.length c7]) (p := cm) (okp := fun k => k < w.heap.size) (Kd.N_below HNS.out (bl1 (o := (.cells #[.int .i64 cm.f0, .int .i64 cm.f1, .int .i64 cm.f2, .int .i64 cm.f3, .int .i64 cm.f4.f0, .int .i64 cm.f4.f1, .int .i64 cm.f4.f2, .slice A7 cm.f4.f3.length c7] 46)))) (Kd.FK_below HCM.out hbm) (fun k hk => ⟨Or.inl hk, fun he => by have := Kd.N_base HNS.out k he.symm; omega⟩) (fun k hk => Or.inr (by rw [alsz] at hk; omega)) hbm (by rw [alsz]; omega) (by have := (List.length_filter_le (ownC p) (x.f0.take j)); rw [List.length_take] at this; omega) (h := fun v6 w6 hN6 hb6 hg6 hat6 => ?_)
                  have HN9c := Aside0.mk (Kd.N_grown (Kd.N_below HN9.out (bl1 (o := (.cells #[.int .i64 cm.f0, .int .i64 cm.f1, .int .i64 cm.f2, .int .i64 cm.f3, .int .i64 cm.f4.f0, .int .i64 cm.f4.f1, .int .i64 cm.f4.f2, .slice A7 cm.f4.f3.length c7] 46)))) hg6 (fun k hk he => by have h1 := hownS k he.symm; omega))
                  have hs6 := hg6.size
                  rw [alsz] at hs6
                  rw [HSTJ.out] at hN6
                  obtain ⟨AS2, cS2, rfl⟩ := Kd.N_slice hN6
                  have HN6 := Aside0.mk hN6
                  clear hN6
                  go_wp2
                  go_roundg (x.f0.length - j - 1)
                  case measure => omega
                  case rel => exact ⟨j + 1, AS2, cS2, by omega, by go_num, rfl, HN6.out, HN9c.out, hb6, by omega⟩
                · have HSTJ := Aside0.mk (show ((x.f0.take (j + 1)).filter (ownC p)) = ((x.f0.take j).filter (ownC p)) from by rw [hfs, show ownC p cm = false by simp [ownC, q1, q2], if_neg (by decide), List.append_nil])
                  have f1 : (cm.f0 == p) = false := by simpa using q1
                  have f2 : (cm.f1 == 2) = false := by simpa using q2
                  clear q1 q2 hfs
                  go_wp2
                  go_roundg (x.f0.length - j - 1)
                  case measure => omega
                  case rel => exact ⟨j + 1, AS, cS, by omega, by go_num, by rw [HSTJ.out], by rw [HSTJ.out]; exact Kd.N_below HNS.out (bl1 (o := (.cells #[.int .i64 cm.f0, .int .i64 cm.f1, .int .i64 cm.f2, .int .i64 cm.f3, .int .i64 cm.f4.f0, .int .i64 cm.f4.f1, .int .i64 cm.f4.f2, .slice A7 cm.f4.f3.length c7] 46))), Kd.N_below HN9.out (bl1 (o := (.cells #[.int .i64 cm.f0, .int .i64 cm.f1, .int .i64 cm.f2, .int .i64 cm.f3, .int .i64 cm.f4.f0, .int .i64 cm.f4.f1, .int .i64 cm.f4.f2, .slice A7 cm.f4.f3.length c7] 46))), hbm, by rw [alsz]; omega⟩
            · have e0r := be_cell hbr HE0.out
              have hje : j = x.f0.length := by omega
              subst hje
              have HXA := Aside0.mk (show ((x.f0.take x.f0.length).filter (ownC p)) = x.f0.filter (ownC p) ++ (([] : List S46).take 0).filter (othC p) by rw [List.take_length, List.take_zero, List.filter_nil, List.append_nil])
              have HNX := Aside0.mk (show Kd.N k46 46 wr w.heap.size (fun k => k < w.heap.size ∨ gR ≤ k) (.slice AS (x.f0.filter (ownC p)).length cS) (x.f0.filter (ownC p)) by have := HNS.out; rw [List.take_length] at this; exact this)
              go_wp2
              rw [List.take_length]
              by_cases cmt : t < m.length
              · obtain ⟨ad2, By, dy, yy, hAd2, hyy, f0, hdy, hFy⟩ := el41F HMF.out t cmt
                subst hAd2
                obtain ⟨y, hy⟩ : ∃ y, y = yy.f0 := ⟨_, rfl⟩
                rw [← hy] at f0 hdy hFy
                have HY := Aside0.mk (show y = (m.getD t z41).f0 by rw [hy, List.getD_eq_getElem?_getD, List.getElem?_eq_getElem cmt, Option.getD_some, hyy.out])
                have HF0 := Aside0.mk f0
                have HFy := Aside0.mk hFy
                have hy10 : y.length ≤ 10 := by rw [hy]; exact HFM.out.1.2 yy (by rw [← hyy.out]; exact List.getElem_mem cmt)
                clear hFy f0 hy
                go_loopg [11, 14] y.length (fun k v11 v14 wr => ∃ (j : Nat) (AS : Option Addr) (cS : Nat), j + k = y.length ∧ v14 = .int .i64 j ∧ v11 = .slice AS ((x.f0.filter (ownC p)).length + ((y.take j).filter (othC p)).length) cS ∧ Kd.N k46 46 wr w.heap.size (fun k => k < w.heap.size ∨ gR ≤ k) (.slice AS ((x.f0.filter (ownC p)).length + ((y.take j).filter (othC p)).length) cS) (x.f0.filter (ownC p) ++ (y.take j).filter (othC p)) ∧ Kd.N k41 41 wr w.heap.size (fun k => k < gR) (.slice A9 t c9) ((mixL p l m).take t) ∧ Below w.heap.size w wr ∧ gR ≤ wr.heap.size)
                case atStart => exact ⟨0, AS, cS, by omega, by go_num, by rw [List.take_zero, List.filter_nil]; rfl, by rw [List.take_zero, List.filter_nil, List.append_nil]; exact HNX.out, HN9.out, hbr, hgr⟩
                case round =>
                  clear HNX HNS HN9 hbr e0r hgr
                  obtain ⟨j, AS, cS, hj, rfl, rfl, hNS, hN9, hbr, hgr⟩ := hrel
                  have HNS := Aside0.mk hNS
                  have HN9 := Aside0.mk hN9
                  clear hNS hN9
                  have f0r := be_cell hbr HF0.out
                  by_cases cj : j < y.length
                  · obtain ⟨adc, A7, c7, cm, hAc, hcm, y0, y1, y2, y3, y4, y5, y6, y7, l7, g7⟩ := el46F HFy.out j cj
                    subst hAc
                    have HCM := Aside0.mk (k46_mkF _ _ cm l7 g7)
                    have b0 := be_cell hbr y0
                    have b1 := be_cell hbr y1
                    have b2 := be_cell hbr y2
                    have b3 := be_cell hbr y3
                    have b4 := be_cell hbr y4
                    have b5 := be_cell hbr y5
                    have b6 := be_cell hbr y6
                    have b7 := be_cell hbr y7
                    have hbm := below_alloc hbr (.cells #[.int .i64 cm.f0, .int .i64 cm.f1, .int .i64 cm.f2, .int .i64 cm.f3, .int .i64 cm.f4.f0, .int .i64 cm.f4.f1, .int .i64 cm.f4.f2, .slice A7 cm.f4.f3.length c7] 46)
                    have hownS : ∀ k, (Value.slice AS ((x.f0.filter (ownC p)).length + ((y.take j).filter (othC p)).length) cS).ownBlock = some k → gR ≤ k := fun k hk => (HNS.out.1 k hk).elim (fun h => by have := Kd.N_base HNS.out k hk; omega) (fun h => h)
                    have hfs := filt_step (othC p) y j cj
                    rw [hcm.out] at hfs
                    clear y0 y1 y2 y3 y4 y5 y6 y7 l7 g7 hcm
                    by_cases q1 : cm.f0 = p
                    · have HSTJ := Aside0.mk (show ((y.take (j + 1)).filter (othC p)) = ((y.take j).filter (othC p)) from by rw [hfs, show othC p cm = false by simp [othC, q1], if_neg (by decide), List.append_nil])
                      have f1 : (cm.f0 != p) = false := by simpa using q1
                      clear q1 hfs
                      go_wp2
                      go_roundg (y.length - j - 1)
                      case measure => omega
                      case rel => exact ⟨j + 1, AS, cS, by omega, by go_num, by rw [HSTJ.out], by rw [HSTJ.out]; exact Kd.N_below HNS.out (bl1 (o := (.cells #[.int .i64 cm.f0, .int .i64 cm.f1, .int .i64 cm.f2, .int .i64 cm.f3, .int .i64 cm.f4.f0, .int .i64 cm.f4.f1, .int .i64 cm.f4.f2, .slice A7 cm.f4.f3.length c7] 46))), Kd.N_below HN9.out (bl1 (o := (.cells #[.int .i64 cm.f0, .int .i64 cm.f1, .int .i64 cm.f2, .int .i64 cm.f3, .int .i64 cm.f4.f0, .int .i64 cm.f4.f1, .int .i64 cm.f4.f2, .slice A7 cm.f4.f3.length c7] 46))), hbm, by rw [alsz]; omega⟩
                    · by_cases q2 : cm.f1 = 2
                      · have HSTJ := Aside0.mk (show ((y.take (j + 1)).filter (othC p)) = ((y.take j).filter (othC p)) from by rw [hfs, show othC p cm = false by simp [othC, q1, q2], if_neg (by decide), List.append_nil])
                        have f1 : (cm.f0 != p) = true := by simpa using q1
                        have f2 : (cm.f1 != 2) = false := by simpa using q2
                        clear q1 q2 hfs
                        go_wp2
                        go_roundg (y.length - j - 1)
                        case measure => omega
                        case rel => exact ⟨j + 1, AS, cS, by omega, by go_num, by rw [HSTJ.out], by rw [HSTJ.out]; exact Kd.N_below HNS.out (bl1 (o := (.cells #[.int .i64 cm.f0, .int .i64 cm.f1, .int .i64 cm.f2, .int .i64 cm.f3, .int .i64 cm.f4.f0, .int .i64 cm.f4.f1, .int .i64 cm.f4.f2, .slice A7 cm.f4.f3.length c7] 46))), Kd.N_below HN9.out (bl1 (o := (.cells #[.int .i64 cm.f0, .int .i64 cm.f1, .int .i64 cm.f2, .int .i64 cm.f3, .int .i64 cm.f4.f0, .int .i64 cm.f4.f1, .int .i64 cm.f4.f2, .slice A7 cm.f4.f3.length c7] 46))), hbm, by rw [alsz]; omega⟩
                      · have HSTJ := Aside0.mk (show (x.f0.filter (ownC p) ++ (y.take j).filter (othC p)) ++ [cm] = (x.f0.filter (ownC p) ++ (y.take (j + 1)).filter (othC p)) from by rw [hfs, show othC p cm = true by simp [othC, q1, q2], if_pos rfl]; rw [List.append_assoc])
                        have f1 : (cm.f0 != p) = true := by simpa using q1
                        have f2 : (cm.f1 != 2) = true := by simpa using q2
                        clear q1 q2 hfs
                        go_wp2_with ((with_reducible refine gate_builtin (b := .append) (xs := #[.tmp 99, .tmp 101]) rfl ?_); at_builtin; refine stop_ ?_)
                        refine ⟨?_⟩
                        refine apN row46 (w0 := w) (base := w.heap.size) (cs := [.int .i64 cm.f0, .int .i64 cm.f1, .int .i64 cm.f2, .int .i64 cm.f3, .int .i64 cm.f4.f0, .int .i64 cm.f4.f1, .int .i64 cm.f4.f2, .slice A7 cm.f4.f3.length c7]) (p := cm) (okp := fun k => k < w.heap.size) (Kd.N_below HNS.out (bl1 (o := (.cells #[.int .i64 cm.f0, .int .i64 cm.f1, .int .i64 cm.f2, .int .i64 cm.f3, .int .i64 cm.f4.f0, .int .i64 cm.f4.f1, .int .i64 cm.f4.f2, .slice A7 cm.f4.f3.length c7] 46)))) (Kd.FK_below HCM.out hbm) (fun k hk => ⟨Or.inl hk, fun he => by have := Kd.N_base HNS.out k he.symm; omega⟩) (fun k hk => Or.inr (by rw [alsz] at hk; omega)) hbm (by rw [alsz]; omega) (by have := (List.length_filter_le (ownC p) x.f0); have := (List.length_filter_le (othC p) (y.take j)); rw [List.length_take] at this; rw [List.length_append]; omega) (h := fun v6 w6 hN6 hb6 hg6 hat6 => ?_)
                        have HN9c := Aside0.mk (Kd.N_grown (Kd.N_below HN9.out (bl1 (o := (.cells #[.int .i64 cm.f0, .int .i64 cm.f1, .int .i64 cm.f2, .int .i64 cm.f3, .int .i64 cm.f4.f0, .int .i64 cm.f4.f1, .int .i64 cm.f4.f2, .slice A7 cm.f4.f3.length c7] 46)))) hg6 (fun k hk he => by have h1 := hownS k he.symm; omega))
                        have hs6 := hg6.size
                        rw [alsz] at hs6
                        rw [HSTJ.out] at hN6
                        obtain ⟨AS2, cS2, rfl⟩ := Kd.N_slice hN6
                        rw [List.length_append] at hN6 ⊢
                        have HN6 := Aside0.mk hN6
                        clear hN6
                        go_wp2
                        go_roundg (y.length - j - 1)
                        case measure => omega
                        case rel => exact ⟨j + 1, AS2, cS2, by omega, by go_num, rfl, HN6.out, HN9c.out, hb6, by omega⟩
                  · clear HXA
                    have hje : j = y.length := by omega
                    subst hje
                    have HNS := Aside0.mk (show Kd.N k46 46 wr w.heap.size (fun k => k < w.heap.size ∨ gR ≤ k) (.slice AS ((x.f0.filter (ownC p)).length + (y.filter (othC p)).length) cS) (x.f0.filter (ownC p) ++ y.filter (othC p)) from by have := HNS.out; rw [List.take_length] at this; exact this)
                    have HMX := Aside0.mk (show (⟨mixAt p x.f0 (m.getD t z41).f0⟩ : S41) = ⟨x.f0.filter (ownC p) ++ y.filter (othC p)⟩ by rw [HY.out]; rfl)
                    rw [HMX.out] at HST
                    have hlS := (Kd.N_reads' HNS.out).2.1
                    have HK41 := Aside0.mk (show Kd.FK k41 wr (fun k => k < w.heap.size ∨ gR ≤ k) (⟨(x.f0.filter (ownC p) ++ y.filter (othC p))⟩ : S41) [.slice AS ((x.f0.filter (ownC p)).length + (y.filter (othC p)).length) cS] from by
                      have K := k41_mkF wr (fun k => k < w.heap.size ∨ gR ≤ k) (⟨(x.f0.filter (ownC p) ++ y.filter (othC p))⟩ : S41) (A0 := AS) (c0 := cS) (by show (x.f0.filter (ownC p) ++ y.filter (othC p)).length ≤ cS; rw [List.length_append]; exact hlS) (by show Kd.F k46 wr _ AS (x.f0.filter (ownC p) ++ y.filter (othC p)).length _; rw [List.length_append]; exact Kd.N_F HNS.out)
                      rw [show (S41.mk (x.f0.filter (ownC p) ++ y.filter (othC p))).f0.length = ((x.f0.filter (ownC p)).length + (y.filter (othC p)).length) from List.length_append ..] at K
                      exact K)
                    go_wp2_with ((with_reducible refine gate_builtin (b := .append) (xs := #[.tmp 103, .tmp 106]) rfl ?_); at_builtin; refine stop_ ?_)
                    refine ⟨?_⟩
                    refine apN row41 (w0 := w) (base := w.heap.size) (cs := [.slice AS ((x.f0.filter (ownC p)).length + (y.filter (othC p)).length) cS]) (p := (⟨x.f0.filter (ownC p) ++ y.filter (othC p)⟩ : S41)) (okp := fun k => k < w.heap.size ∨ gR ≤ k) (ok := fun _ => True) (Kd.N_mono HN9.out (fun _ _ => trivial)) HK41.out (fun k hk => ⟨trivial, fun he => by have h1 := HN9.out.1 k he.symm; have h2 := Kd.N_base HN9.out k he.symm; omega⟩) (fun k hk => trivial) hbr (by have := hbr.size; exact this) (by rw [List.length_take]; omega) (h := fun v6 w6 hN6 hb6 hg6 hat6 => ?_)
                    rw [HST.out] at hN6
                    obtain ⟨B9, d9, rfl⟩ := Kd.N_slice hN6
                    have hlt : ((mixL p l m).take (t + 1)).length = t + 1 := by rw [List.length_take, mixL_len]; omega
                    rw [hlt] at hN6 ⊢
                    have HN6 := Aside0.mk hN6
                    clear hN6
                    go_wp2
                    go_roundg (l.length - t - 1)
                    case measure => omega
                    case rel => exact ⟨t + 1, B9, d9, by omega, by go_num, rfl, HN6.out, hb6⟩
              · obtain ⟨y, hy⟩ : ∃ y : List S46, y = [] := ⟨_, rfl⟩
                have HY := Aside0.mk (show y = (m.getD t z41).f0 by rw [hy, List.getD_eq_getElem?_getD, List.getElem?_eq_none (by omega)]; rfl)
                have HY0 := Aside0.mk (show y.length = 0 from by rw [hy]; rfl)
                clear hy
                go_loopg [11, 14] y.length (fun k v11 v14 wr => ∃ (j : Nat) (AS : Option Addr) (cS : Nat), j + k = y.length ∧ v14 = .int .i64 j ∧ v11 = .slice AS ((x.f0.filter (ownC p)).length + ((y.take j).filter (othC p)).length) cS ∧ Kd.N k46 46 wr w.heap.size (fun k => k < w.heap.size ∨ gR ≤ k) (.slice AS ((x.f0.filter (ownC p)).length + ((y.take j).filter (othC p)).length) cS) (x.f0.filter (ownC p) ++ (y.take j).filter (othC p)) ∧ Kd.N k41 41 wr w.heap.size (fun k => k < gR) (.slice A9 t c9) ((mixL p l m).take t) ∧ Below w.heap.size w wr ∧ gR ≤ wr.heap.size)
                case atStart => exact ⟨0, AS, cS, by omega, by go_num, by rw [List.take_zero, List.filter_nil]; rfl, by rw [List.take_zero, List.filter_nil, List.append_nil]; exact HNX.out, HN9.out, hbr, hgr⟩
                case round =>
                  clear HNX HNS HN9 hbr e0r hgr
                  obtain ⟨j, AS, cS, hj, rfl, rfl, hNS, hN9, hbr, hgr⟩ := hrel
                  have HNS := Aside0.mk hNS
                  have HN9 := Aside0.mk hN9
                  clear hNS hN9 HXA
                  have hje : j = y.length := by have := HY0.out; omega
                  subst hje
                  have HNS := Aside0.mk (show Kd.N k46 46 wr w.heap.size (fun k => k < w.heap.size ∨ gR ≤ k) (.slice AS ((x.f0.filter (ownC p)).length + (y.filter (othC p)).length) cS) (x.f0.filter (ownC p) ++ y.filter (othC p)) from by have := HNS.out; rw [List.take_length] at this; exact this)
                  have HMX := Aside0.mk (show (⟨mixAt p x.f0 (m.getD t z41).f0⟩ : S41) = ⟨x.f0.filter (ownC p) ++ y.filter (othC p)⟩ by rw [HY.out]; rfl)
                  rw [HMX.out] at HST
                  have hlS := (Kd.N_reads' HNS.out).2.1
                  have HK41 := Aside0.mk (show Kd.FK k41 wr (fun k => k < w.heap.size ∨ gR ≤ k) (⟨(x.f0.filter (ownC p) ++ y.filter (othC p))⟩ : S41) [.slice AS ((x.f0.filter (ownC p)).length + (y.filter (othC p)).length) cS] from by
                    have K := k41_mkF wr (fun k => k < w.heap.size ∨ gR ≤ k) (⟨(x.f0.filter (ownC p) ++ y.filter (othC p))⟩ : S41) (A0 := AS) (c0 := cS) (by show (x.f0.filter (ownC p) ++ y.filter (othC p)).length ≤ cS; rw [List.length_append]; exact hlS) (by show Kd.F k46 wr _ AS (x.f0.filter (ownC p) ++ y.filter (othC p)).length _; rw [List.length_append]; exact Kd.N_F HNS.out)
                    rw [show (S41.mk (x.f0.filter (ownC p) ++ y.filter (othC p))).f0.length = ((x.f0.filter (ownC p)).length + (y.filter (othC p)).length) from List.length_append ..] at K
                    exact K)
                  go_wp2_with ((with_reducible refine gate_builtin (b := .append) (xs := #[.tmp 103, .tmp 106]) rfl ?_); at_builtin; refine stop_ ?_)
                  refine ⟨?_⟩
                  refine apN row41 (w0 := w) (base := w.heap.size) (cs := [.slice AS ((x.f0.filter (ownC p)).length + (y.filter (othC p)).length) cS]) (p := (⟨x.f0.filter (ownC p) ++ y.filter (othC p)⟩ : S41)) (okp := fun k => k < w.heap.size ∨ gR ≤ k) (ok := fun _ => True) (Kd.N_mono HN9.out (fun _ _ => trivial)) HK41.out (fun k hk => ⟨trivial, fun he => by have h1 := HN9.out.1 k he.symm; have h2 := Kd.N_base HN9.out k he.symm; omega⟩) (fun k hk => trivial) hbr (by have := hbr.size; exact this) (by rw [List.length_take]; omega) (h := fun v6 w6 hN6 hb6 hg6 hat6 => ?_)
                  rw [HST.out] at hN6
                  obtain ⟨B9, d9, rfl⟩ := Kd.N_slice hN6
                  have hlt : ((mixL p l m).take (t + 1)).length = t + 1 := by rw [List.length_take, mixL_len]; omega
                  rw [hlt] at hN6 ⊢
                  have HN6 := Aside0.mk hN6
                  clear hN6
                  go_wp2
                  go_roundg (l.length - t - 1)
                  case measure => omega
                  case rel => exact ⟨t + 1, B9, d9, by omega, by go_num, rfl, HN6.out, hb6⟩
        · have hte : t = l.length := by omega
          subst hte
          obtain ⟨mx, hmx⟩ : ∃ mx, mx = mixL p l m := ⟨_, rfl⟩
          have HML := Aside0.mk (show mx.length = l.length by rw [hmx, mixL_len])
          have HMXF := Aside0.mk (show Kd.F k41 wr (fun k => True ∧ k < wr.heap.size) A9 l.length mx from by
            have h := Kd.N_F HN9.out
            rw [List.take_of_length_le (by rw [mixL_len]; exact Nat.le_refl _), ← hmx] at h
            exact h)
          have hlaw2 := HLAW.out HFL.out.1 HFM.out.1
          rw [← hmx] at hlaw2
          have HSL := Aside0.mk (show (scrL l).length = l.length from List.length_map ..)
          have HSM := Aside0.mk (show (scrL mx).length = l.length from by rw [show (scrL mx).length = mx.length from List.length_map .., HML.out])
          clear hmx HN9 HLAW HFL HFM HG HG2 HMF
          have hN0_5 := N_empty (d := Kd.int .u8) wr wr.heap.size (fun _ => True) 5 (Nat.le_refl _) trivial
          go_wp2_with ((with_reducible refine gate_builtin (b := .append) (xs := #[.tmp 109, .tmp 110]) rfl ?_); at_builtin; refine stop_ ?_)
          refine ⟨?_⟩
          refine apNR row5 (w0 := wr) (base := wr.heap.size) hN0_5 (Kd.F_below HCF.out (below_alloc hbr _)) (fun k hk => ⟨trivial, fun he => by have h1 : k = wr.heap.size := Option.some.inj he; have := hbr.size; omega⟩) (fun _ _ => trivial) bl1 (by rw [alsz]; omega) (by show 0 + b.length ≤ 100000; omega) (h := fun v5 w5 hN5 hb5 hg5 hat5 => ?_)
          rw [List.nil_append] at hN5
          obtain ⟨B5, d5, rfl⟩ := Kd.N_slice hN5
          have HC5 := Aside0.mk (Kd.N_reads' hN5).2.2
          have hB5 := below_step hbr hb5
          clear hN5 hg5 hat5 hN0_5
          go_wp2_with fail
          refine (top_script.calls A c l _ w5 (Kd.F_below HLF.out hB5) (by omega)).mono ?_; rintro _ w6 ⟨A6, c6, rfl, hF6, hb6⟩
          have hB6 := below_step hB5 hb6
          have HC6 := Aside0.mk (Kd.C_below HC5.out hb6)
          have hS6 : Kd.F kAsks w6 (nw (fun k => k < w.heap.size) w5) A6 (scrL l).length (scrL l) := by rw [HSL.out]; exact hF6
          have K6 := world_Play.calls B5 d5 b A6 c6 (scrL l) _ w6 HC6.out HB.out (by omega) hS6 (by rw [HSL.out]; omega)
          rw [HSL.out] at K6
          clear hS6 hF6
          go_wp2_with fail
          refine K6.mono ?_; rintro _ w7 ⟨V1, e1, rfl, hVl1, hV1, hb7⟩
          clear K6
          have hB7 := below_step hB6 hb7
          have HMX7 := Aside0.mk (Kd.F_below HMXF.out (below_step (below_step hb5 hb6) hb7))
          generalize playK b (scrL l) = pk1 at hlaw2 hVl1 hV1 ⊢
          have HV7 := Aside0.mk hV1
          clear hV1 hb7 hb6 hb5 hB5 hB6 hbr HMXF HC6 HC5
          have hN0_8 := N_empty (d := Kd.int .u8) w7 w7.heap.size (fun _ => True) 5 (Nat.le_refl _) trivial
          go_wp2_with ((with_reducible refine gate_builtin (b := .append) (xs := #[.tmp 118, .tmp 119]) rfl ?_); at_builtin; refine stop_ ?_)
          refine ⟨?_⟩
          refine apNR row5 (w0 := w7) (base := w7.heap.size) hN0_8 (Kd.F_below HCF.out (below_alloc hB7 _)) (fun k hk => ⟨trivial, fun he => by have h1 : k = w7.heap.size := Option.some.inj he; have := hB7.size; omega⟩) (fun _ _ => trivial) bl1 (by rw [alsz]; omega) (by show 0 + b.length ≤ 100000; omega) (h := fun v8 w8 hN8 hb8 hg8 hat8 => ?_)
          rw [List.nil_append] at hN8
          obtain ⟨B8, d8, rfl⟩ := Kd.N_slice hN8
          have HC8 := Aside0.mk (Kd.N_reads' hN8).2.2
          have hB8 := below_step hB7 hb8
          clear hN8 hg8 hat8 hN0_8
          go_wp2_with fail
          have HV8 := Aside0.mk (Kd.F_below HV7.out hb8)
          have hX9 := top_script.calls A9 c9 mx _ w8 (by rw [HML.out]; exact Kd.F_below HMX7.out hb8) (by rw [HML.out]; omega)
          rw [HML.out] at hX9
          refine hX9.mono ?_; rintro _ w9 ⟨A10, c10, rfl, hF9, hb9⟩
          clear hX9
          have hB9 := below_step hB8 hb9
          have HV9 := Aside0.mk (Kd.F_below HV8.out hb9)
          have HC9 := Aside0.mk (Kd.C_below HC8.out hb9)
          have hS9 : Kd.F kAsks w9 (nw (fun k => True ∧ k < wr.heap.size) w8) A10 (scrL mx).length (scrL mx) := by rw [HSM.out]; exact hF9
          have K9 := world_Play.calls B8 d8 b A10 c10 (scrL mx) _ w9 HC9.out HB.out (by omega) hS9 (by rw [HSM.out]; omega)
          rw [HSM.out] at K9
          clear hS9 hF9
          go_wp2_with fail
          refine K9.mono ?_; rintro _ wa ⟨V2, e2, rfl, hVl2, hV2, hb10⟩
          clear K9
          have hBa := below_step hB9 hb10
          have HV1 := Aside0.mk (Kd.F_below HV9.out hb10)
          generalize playK b (scrL mx) = pk2 at hlaw2 hVl2 hV2 ⊢
          have HV2 := Aside0.mk hV2
          rw [← hlaw2.1]
          rw [← hlaw2.2.1] at hVl2 ⊢
          have HV2 := Aside0.mk (show Kd.F k36 wa (nw (nw (fun k => True ∧ k < wr.heap.size) w8) w9) V2 pk1.1.length pk2.1 from by rw [hlaw2.2.1]; exact hV2)
          have HLAW := Aside0.mk hlaw2
          have hq1 : (pk1.2 != pk1.2) = false := by simp
          have hq2 : ((pk1.1.length : Int) != (pk1.1.length : Int)) = false := by simp
          clear hlaw2 hV2 hb10 hb9 hb8 hB7 hB8 hB9 HC9 HC8 HV9 HV8 HV7 HMX7
          have hPl := (Kd.F_now HV1.out).2.1
          go_wp2_with fail
          by_cases p0 : p < 0
          · skip
            refine st_ 23 (fun w' => Below wa.heap.size wa w') [] top_Alone.tab25 top_Alone.bits25 (below_drew1 bl0) (h := fun HT HW hHeld => ?_)
            repeat (first | refine pn_ HT (h := ?_) | refine tn_ HT HW hHeld (h := ?_) | refine zn_ HT (h := ?_))
            refine oc_ HT ((top_works.calls _)) (hS := fun w3 hb3 => (below_step (hHeld) hb3)) (h := fun w3 hb3 hHeld => ?_)
            repeat (first | refine pn_ HT (h := ?_) | refine tn_ HT HW hHeld (h := ?_) | refine zn_ HT (h := ?_))
            refine dn_ HT (h := ?_)
            clear HT HW
            go_wp2
            go_ret
            exact ⟨rfl, below_step hBa (hHeld)⟩
          · have hp0 : 0 ≤ p := by omega
            obtain ⟨q, rfl⟩ := Int.eq_ofNat_of_zero_le hp0
            by_cases cp : q < pk1.1.length
            · obtain ⟨ad, A0, c0, A1, c1, A2', c2', v, hAd, hv, p0, p1, p2, l0, g0, l1, g1, l2, g2⟩ := el36F HV1.out q cp
              subst hAd
              have cp2 : q < pk2.1.length := by rw [← HLAW.out.2.1]; exact cp
              have HV2b := Aside0.mk (show Kd.F k36 wa (nw (nw (fun k => True ∧ k < wr.heap.size) w8) w9) V2 pk2.1.length pk2.1 from by rw [← HLAW.out.2.1]; exact HV2.out)
              obtain ⟨ad2, B0, x0, B1, x1, B2, x2, v', hAd2, hv', u0, u1, u2, m0, f0, m1, f1, m2, f2⟩ := el36F HV2b.out q cp2
              subst hAd2
              obtain rfl : v' = v := by
                have h := HLAW.out.2.2 hp0 (by omega)
                rw [Int.toNat_natCast, List.getD_eq_getElem?_getD, List.getD_eq_getElem?_getD, List.getElem?_eq_getElem cp, List.getElem?_eq_getElem cp2, Option.getD_some, Option.getD_some, hv.out, hv'.out] at h
                exact h.symm
              have HA := Aside0.mk (And.intro (And.intro l0 (And.intro l1 l2)) (And.intro g0 (And.intro g1 g2)))
              have HBb := Aside0.mk (And.intro (And.intro m0 (And.intro m1 m2)) (And.intro f0 (And.intro f1 f2)))
              have cg : ¬ ((pk1.1.length : Int) ≤ (q : Int)) := by omega
              clear l0 g0 l1 g1 l2 g2 m0 f0 m1 f1 m2 f2 hv hv'
              refine st_ 23 (fun w' => w'.cell? (ad.add (q * 3)) = some (.slice A0 v'.f0.length c0) ∧ w'.cell? (⟨(ad.add (q * 3)).block, (ad.add (q * 3)).off + 1, none⟩) = some (.slice A1 v'.f1.length c1) ∧ w'.cell? (⟨(ad.add (q * 3)).block, (ad.add (q * 3)).off + 2, none⟩) = some (.slice A2' v'.f2.length c2') ∧ w'.cell? (ad2.add (q * 3)) = some (.slice B0 v'.f0.length x0) ∧ w'.cell? (⟨(ad2.add (q * 3)).block, (ad2.add (q * 3)).off + 1, none⟩) = some (.slice B1 v'.f1.length x1) ∧ w'.cell? (⟨(ad2.add (q * 3)).block, (ad2.add (q * 3)).off + 2, none⟩) = some (.slice B2 v'.f2.length x2) ∧ Below wa.heap.size wa w') [] top_Alone.tab25 top_Alone.bits25 ⟨p0, p1, p2, u0, u1, u2, below_drew1 bl0⟩ (h := fun HT HW hHeld => ?_)
              repeat (first | refine pn_ HT (h := ?_) | refine tn_ HT HW hHeld (h := ?_) | refine zn_ HT (h := ?_))
              refine oc_ HT ((law22_Same.calls v' _ _ _ (k36_mk _ v' HA.out.1.1 (Kd.F_now (Kd.F_below HA.out.2.1 (hHeld.2.2.2.2.2.2))) HA.out.1.2.1 (Kd.F_now (Kd.F_below HA.out.2.2.1 (hHeld.2.2.2.2.2.2))) HA.out.1.2.2 (Kd.F_now (Kd.F_below HA.out.2.2.2 (hHeld.2.2.2.2.2.2)))) (k36_mk _ v' HBb.out.1.1 (Kd.F_now (Kd.F_below HBb.out.2.1 (hHeld.2.2.2.2.2.2))) HBb.out.1.2.1 (Kd.F_now (Kd.F_below HBb.out.2.2.1 (hHeld.2.2.2.2.2.2))) HBb.out.1.2.2 (Kd.F_now (Kd.F_below HBb.out.2.2.2 (hHeld.2.2.2.2.2.2)))))) (hS := fun w3 hb3 => ⟨be_cell hb3 (hHeld.1), be_cell hb3 (hHeld.2.1), be_cell hb3 (hHeld.2.2.1), be_cell hb3 (hHeld.2.2.2.1), be_cell hb3 (hHeld.2.2.2.2.1), be_cell hb3 (hHeld.2.2.2.2.2.1), below_step (hHeld.2.2.2.2.2.2) hb3⟩) (h := fun w3 hb3 hHeld => ?_)
              repeat (first | refine pn_ HT (h := ?_) | refine tn_ HT HW hHeld (h := ?_) | refine zn_ HT (h := ?_))
              refine oc_ HT ((top_works.calls _)) (hS := fun w3 hb3 => ⟨be_cell hb3 (hHeld.1), be_cell hb3 (hHeld.2.1), be_cell hb3 (hHeld.2.2.1), be_cell hb3 (hHeld.2.2.2.1), be_cell hb3 (hHeld.2.2.2.2.1), be_cell hb3 (hHeld.2.2.2.2.2.1), below_step (hHeld.2.2.2.2.2.2) hb3⟩) (h := fun w3 hb3 hHeld => ?_)
              repeat (first | refine pn_ HT (h := ?_) | refine tn_ HT HW hHeld (h := ?_) | refine zn_ HT (h := ?_))
              refine dn_ HT (h := ?_)
              clear HT HW
              go_wp2
              go_ret
              exact ⟨rfl, below_step hBa (hHeld.2.2.2.2.2.2)⟩
            · have cg : (pk1.1.length : Int) ≤ (q : Int) := by omega
              refine st_ 23 (fun w' => Below wa.heap.size wa w') [] top_Alone.tab25 top_Alone.bits25 (below_drew1 bl0) (h := fun HT HW hHeld => ?_)
              repeat (first | refine pn_ HT (h := ?_) | refine tn_ HT HW hHeld (h := ?_) | refine zn_ HT (h := ?_))
              refine oc_ HT ((top_works.calls _)) (hS := fun w3 hb3 => (below_step (hHeld) hb3)) (h := fun w3 hb3 hHeld => ?_)
              repeat (first | refine pn_ HT (h := ?_) | refine tn_ HT HW hHeld (h := ?_) | refine zn_ HT (h := ?_))
              refine dn_ HT (h := ?_)
              clear HT HW
              go_wp2
              go_ret
              exact ⟨rfl, below_step hBa (hHeld)⟩
    · go_wp2_with fail
      refine (top_works.calls w3).mono ?_; rintro _ w4 ⟨rfl, hb4⟩
      have hbB := below_step hbA hb4
      go_wp2
      go_ret
      exact ⟨rfl, hbB⟩
  · go_wp2_with fail
    refine (top_works.calls w2).mono ?_; rintro _ w4 ⟨rfl, hb4⟩
    have hbB := below_step hb2 hb4
    go_wp2
    go_ret
    exact ⟨rfl, hbB⟩
end Go.Proofs.YtmngaagojkihbaaGreat.FTop
