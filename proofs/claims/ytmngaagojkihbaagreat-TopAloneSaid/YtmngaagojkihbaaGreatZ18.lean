/- Contracts of functions that the statement TopAlone reaches, and plain lemmas. No condition. -/
import Derived.Test.YtmngaagojkihbaaGreatZ17
namespace Go.Proofs.YtmngaagojkihbaaGreat.FTop
open Go.RowKit Go.Proofs.YtmngaagojkihbaaGreatW.PrintWords Go.Proofs.YtmngaagojkihbaaGreatW.PrintLast Go.Proofs.YtmngaagojkihbaaGreatW.PrintMore
attribute [local go_sem] max2_int min2_int max_two min_two
set_option linter.unusedVariables false
set_option linter.unusedSimpArgs false
set_option maxHeartbeats 8000000
set_option maxRecDepth 100000
def partOk (p : S87) : Bool := supR p.f0 && taskA p.f1
def lineOk (n : Nat) (q : S91) : Bool := decide (q.f0 < n ∧ q.f1 < n)
def imgR (ps : List S87) (qs : List S91) : Bool := ps.all partOk && qs.all (lineOk ps.length) && (decide ((openL qs).2 = 0) && decide (ps.length ≤ 4))
theorem image_Right.calls (A1 A2 : Option Addr) (c1 c2 : Nat) (ps : List S87) (qs : List S91) (w : World) (hP : Kd.C k87 w A1 ps.length ps) (hQ : Kd.C k91 w A2 qs.length qs) (hp : ps.length ≤ 1000) (hq : qs.length ≤ 1000) :
    Ret 29 #[.agg #[.slice A1 ps.length c1, .slice A2 qs.length c2]] w (.bool (imgR ps qs)) := by
  have hu := Tryz.underlying53
  have hu2 := Tryz.underlying87
  have hu3 := Tryz.underlying91
  have hu4 := Tryz.underlying85
  have HP := Aside0.mk hP
  have HQ := Aside0.mk hQ
  clear hP hQ
  have hX := blk_new w (.cells #[.slice A1 ps.length c1, .slice A2 qs.length c2] 53)
  have hb0 := @bl1 w (.cells #[.slice A1 ps.length c1, .slice A2 qs.length c2] 53)
  obtain ⟨x0, x1⟩ := bx2 hX
  go_enter Tryz.func29, Tryz.ntmps29
  go_wp2
  go_loopg [12] ps.length (fun k v12 wr => ∃ i : Nat, i + k = ps.length ∧ v12 = .int .i64 i ∧ Aside0 ((ps.take i).all partOk = true) ∧ Below w.heap.size w wr ∧ wr.heap[w.heap.size]? = some (.cells #[.slice A1 ps.length c1, .slice A2 qs.length c2] 53 (0, 0)))
  case atStart => exact ⟨0, by omega, rfl, ⟨rfl⟩, hb0, hX⟩
  case round =>
    clear hX hb0 x0 x1
    obtain ⟨i, hi, rfl, ha, hb, hX⟩ := hrel
    by_cases ci : i < ps.length
    · obtain ⟨ad, A3, c3, p, rfl, ht, h0, h1, h2, hlc, hC⟩ := el87 (Kd.C_below HP.out hb) i ci
      have HC := Aside0.mk hC
      clear hC
      have hb1 := below_alloc hb (.cells #[.int .i64 p.f0.f0, .int .i64 p.f0.f1, .slice A3 p.f1.length c3] 87)
      have hX1 := blk_al hX (.cells #[.int .i64 p.f0.f0, .int .i64 p.f0.f1, .slice A3 p.f1.length c3] 87)
      have hY1 := blk_new wr (.cells #[.int .i64 p.f0.f0, .int .i64 p.f0.f1, .slice A3 p.f1.length c3] 87)
      have hC1 := Aside0.mk (C_alloc HC.out (.cells #[.int .i64 p.f0.f0, .int .i64 p.f0.f1, .slice A3 p.f1.length c3] 87))
      obtain ⟨y0, y1, y2⟩ := bx3 hY1
      go_wp2_with fail
      refine (supply_Right.calls p.f0 _).mono ?_; rintro e w2 ⟨rfl, hb2⟩
      have hb3 := below_step hb1 hb2
      have hX2 := blk_below hX1 hb2
      have hY2 := blk_below hY1 hb2
      have hC2 := Aside0.mk (Kd.C_below hC1.out hb2)
      clear h0 h1 h2 hb hb1 hb2 hX hX1 hY1 y0 y1 y2 HC hC1
      obtain ⟨y0, y1, y2⟩ := bx3 hY2
      cases hr : supR p.f0 with
      | false =>
        have hv := Aside0.mk (show imgR ps qs = false by unfold imgR; rw [all_no _ ps i ci (show partOk ps[i] = false by rw [ht.out]; unfold partOk; rw [hr]; rfl)]; rfl)
        clear hr
        go_wp2
        go_ret
        exact ⟨by rw [hv.out]; rfl, hb3⟩
      | true =>
        go_wp2_with fail
        refine (task_All.calls A3 c3 p.f1 w2 hC2.out).mono ?_; rintro e w4 ⟨rfl, hb4⟩
        have hb5 := below_step hb3 hb4
        have hX4 := blk_below hX2 hb4
        clear hb3 hb4 hX2 hY2 hC2 y0 y1 y2
        cases hs : taskA p.f1 with
        | false =>
          have hv := Aside0.mk (show imgR ps qs = false by unfold imgR; rw [all_no _ ps i ci (show partOk ps[i] = false by rw [ht.out]; unfold partOk; rw [hr, hs]; rfl)]; rfl)
          clear hr hs
          go_wp2
          go_ret
          exact ⟨by rw [hv.out]; rfl, hb5⟩
        | true =>
          have hv := Aside0.mk (show (ps.take (i + 1)).all partOk = true by rw [all_take _ ps i ci ha.out, ht.out]; unfold partOk; rw [hr, hs]; rfl)
          clear hr hs
          go_wp2
          go_roundg (ps.length - i - 1)
          case measure => omega
          case rel => exact ⟨i + 1, by omega, by go_num, hv, hb5, hX4⟩
    · have : i = ps.length := by omega
      subst this
      have hpa := Aside0.mk (show ps.all partOk = true by have := ha.out; rw [List.take_length] at this; exact this)
      obtain ⟨W0, rfl⟩ : ∃ W0, W0 = wr := ⟨_, rfl⟩
      obtain ⟨x0, x1⟩ := bx2 hX
      go_wp2
      go_loopg [30] qs.length (fun k v30 wr => ∃ i : Nat, i + k = qs.length ∧ v30 = .int .i64 i ∧ Aside0 ((qs.take i).all (lineOk ps.length) = true) ∧ Below w.heap.size w wr ∧ wr.heap[w.heap.size]? = some (.cells #[.slice A1 ps.length c1, .slice A2 qs.length c2] 53 (0, 0)))
      case atStart => exact ⟨0, by omega, rfl, ⟨rfl⟩, hb, hX⟩
      case round =>
        clear hX hb x0 x1 ha hi ci
        obtain ⟨i, hi, rfl, ha, hb, hX⟩ := hrel
        obtain ⟨x0, x1⟩ := bx2 hX
        by_cases ci : i < qs.length
        · obtain ⟨ad, q, rfl, ht, h0, h1, h2⟩ := el91 (Kd.C_below HQ.out hb) i ci
          have hb1 := below_alloc hb (.cells #[.int .i64 q.f0, .int .i64 q.f1, .int .i64 q.f2] 91)
          have hX1 := blk_al hX (.cells #[.int .i64 q.f0, .int .i64 q.f1, .int .i64 q.f2] 91)
          have hY1 := blk_new wr (.cells #[.int .i64 q.f0, .int .i64 q.f1, .int .i64 q.f2] 91)
          clear x0 x1
          obtain ⟨x0, x1⟩ := bx2 hX1
          obtain ⟨y0, y1, y2⟩ := bx3 hY1
          have hX3 := Aside0.mk hX1
          by_cases c1 : q.f0 < ps.length
          · by_cases c2 : q.f1 < ps.length
            · have hv := Aside0.mk (show (qs.take (i + 1)).all (lineOk ps.length) = true by rw [all_take _ qs i ci ha.out, ht.out]; exact decide_eq_true ⟨c1, c2⟩)
              go_wp2
              go_roundg (qs.length - i - 1)
              case measure => omega
              case rel => exact ⟨i + 1, by omega, by go_num, hv, hb1, hX3.out⟩
            · have hv := Aside0.mk (show imgR ps qs = false by unfold imgR; rw [all_no (lineOk ps.length) qs i ci (by rw [ht.out]; exact decide_eq_false (fun h => c2 h.2)), Bool.and_false]; rfl)
              go_wp2
              go_ret
              exact ⟨by rw [hv.out]; rfl, hb1⟩
          · have hv := Aside0.mk (show imgR ps qs = false by unfold imgR; rw [all_no (lineOk ps.length) qs i ci (by rw [ht.out]; exact decide_eq_false (fun h => c1 h.1)), Bool.and_false]; rfl)
            go_wp2
            go_ret
            exact ⟨by rw [hv.out]; rfl, hb1⟩
        · have : i = qs.length := by omega
          subst this
          have hv := Aside0.mk (show imgR ps qs = (decide ((openL qs).2 = 0) && decide (ps.length ≤ 4)) by have := ha.out; rw [List.take_length] at this; unfold imgR; rw [this, hpa.out]; rfl)
          go_wp2_with fail
          refine (port_Open.calls A2 c2 qs wr (Kd.C_below HQ.out hb) hq).mono ?_; rintro _ w3 ⟨A', c', rfl, -, -, hb3⟩
          have hb4 := below_step hb hb3
          have hX4 := blk_below hX hb3
          clear x0 x1 hb hb3 hX
          obtain ⟨x0, x1⟩ := bx2 hX4
          generalize (openL qs).2 = e at hv ⊢
          generalize (openL qs).1.length = m
          by_cases ce : e = 0
          · subst ce
            go_wp2
            go_ret
            exact ⟨by rw [hv.out]; exact rb (by simp; omega), hb4⟩
          · have ce1 : (e == 0) = false := by simpa using ce
            have hv2 := Aside0.mk (show imgR ps qs = false by rw [hv.out, decide_eq_false ce]; rfl)
            clear ce hv
            go_wp2
            go_ret
            exact ⟨by rw [hv2.out]; rfl, hb4⟩
def image_Decode.T12 : Bool × List (List Nat × List Nat) := (true, [([], []), ([], []), ([1], [1]), ([], []), ([3], [3]), ([4], [4]), ([5], [5]), ([0, 0], [0]), ([2, 7, 0, 1, 2, 7], [2]), ([6, 8, 0, 1, 2, 3, 4, 5, 6, 7, 8], [6])])
def image_Decode.B12 : List Nat := [0, 0, 2, 0, 8, 24, 56, 1, 135, 511]
theorem image_Decode.tab12 : rtab .any (opsOf Tryz.f13 12) = image_Decode.T12 := by kernel_rfl
theorem image_Decode.bits12 : waitsOk image_Decode.T12.2 image_Decode.B12 = true := by kernel_rfl
def image_Decode.T14 : Bool × List (List Nat × List Nat) := (true, [([], []), ([], []), ([1], [1]), ([2], [2]), ([3], [3]), ([0, 0], [0]), ([4, 5, 0, 1, 2, 3, 4, 5], [4]), ([6, 0, 1, 2, 3, 4, 5, 6], [])])
def image_Decode.B14 : List Nat := [0, 0, 2, 6, 14, 1, 63, 127]
theorem image_Decode.tab14 : rtab .any (opsOf Tryz.f13 14) = image_Decode.T14 := by kernel_rfl
theorem image_Decode.bits14 : waitsOk image_Decode.T14.2 image_Decode.B14 = true := by kernel_rfl
def magG (b : List Int) : List Int → Nat → Nat × Int → (Nat × Int) × Option Nat
  | [], _, s => (s, none)
  | m :: r, i, s => if (oneR b s).2.2 = 0 ∧ (oneR b s).1 ≠ m then ((oneR b s).2, some i) else magG b r (i + 1) (oneR b s).2
def bodI (b : List Int) (s : Nat × Int) : (List S87 × List S91) × (Nat × Int) := (((rowR b (partD b) s).1, (rowR b (prtD b) (rowR b (partD b) s).2).1), (rowR b (prtD b) (rowR b (partD b) s).2).2)
def decI (b : List Int) : (List S87 × List S91) × Int × Int := match magG b [84, 75, 49] 0 (0, 0) with
  | (_, some i) => (([], []), i, 2)
  | (s, none) =>
    if (bodI b s).2.2 = 0 then (if (bodI b s).2.1 < b.length then (([], []), (bodI b s).2.1, 2) else (if imgR (bodI b s).1.1 (bodI b s).1.2 = true then ((bodI b s).1, 0, 0) else (([], []), 0, 1))) else (([], []), b.length, (bodI b s).2.2)
theorem rowG_len {α : Type} (take : Nat × Int → α × (Nat × Int)) : ∀ (n : Nat) (s : Nat × Int) (out : List α), (rowG take n s out).1.length ≤ out.length + n
  | 0, _, out => Nat.le_refl _
  | n + 1, s, out => by
    unfold rowG
    split
    · have := rowG_len take n (take s).2 (out ++ [(take s).1])
      rw [List.length_append] at this
      have h1 : [(take s).1].length = 1 := rfl
      omega
    · show out.length ≤ _; omega
theorem rowR_len {α : Type} {b : List Int} (hb : ∀ x ∈ b, 0 ≤ x ∧ x ≤ 255) (take : Nat × Int → α × (Nat × Int)) (s : Nat × Int) : (rowR b take s).1.length ≤ 255 := by
  have h1 := rowG_len take (oneR b s).1.toNat (oneR b s).2 []
  have h2 := oneR_bd hb s
  have h3 : (rowR b take s).1.length ≤ ([] : List α).length + (oneR b s).1.toNat := h1
  rw [List.length_nil] at h3
  omega
theorem mag0 : wrap64 (((({ data := #[84, 75, 49] } : ByteArray)[0]'(by decide)).toNat : Nat) : Int) = 84 := by rw [show ((({ data := #[84, 75, 49] } : ByteArray)[0]'(by decide)).toNat) = 84 from rfl]; exact w64 (by omega) (by omega)
theorem mag1 : wrap64 (((({ data := #[84, 75, 49] } : ByteArray)[1]'(by decide)).toNat : Nat) : Int) = 75 := by rw [show ((({ data := #[84, 75, 49] } : ByteArray)[1]'(by decide)).toNat) = 75 from rfl]; exact w64 (by omega) (by omega)
theorem mag2 : wrap64 (((({ data := #[84, 75, 49] } : ByteArray)[2]'(by decide)).toNat : Nat) : Int) = 49 := by rw [show ((({ data := #[84, 75, 49] } : ByteArray)[2]'(by decide)).toNat) = 49 from rfl]; exact w64 (by omega) (by omega)
theorem image_Decode.calls (Ab : Option Addr) (cb : Nat) (b : List Int) (w : World) (hC : Kd.C (Kd.int .u8) w Ab b.length b) (hb : ∀ x ∈ b, 0 ≤ x ∧ x ≤ 255) (hl : b.length ≤ 100000) :
    Calls Tryz.prog 13 #[.slice Ab b.length cb] w fun e w' => ∃ A1 c1 A2 c2, e = .returned (.tuple #[.agg #[.slice A1 (decI b).1.1.length c1, .slice A2 (decI b).1.2.length c2], .int .i64 (decI b).2.1, .int .i64 (decI b).2.2]) ∧ (decI b).1.1.length ≤ c1 ∧ Kd.F k87 w' (fun k => w.heap.size ≤ k) A1 (decI b).1.1.length (decI b).1.1 ∧ (decI b).1.2.length ≤ c2 ∧ Kd.F k91 w' (fun k => w.heap.size ≤ k) A2 (decI b).1.2.length (decI b).1.2 ∧ Below w.heap.size w w' := by
  have hu := Tryz.underlying53
  have hu2 := Tryz.underlying96
  have H := Aside0.mk hC
  have HB := Aside0.mk hb
  have hX0 := blk_al (blk_new w (.cells #[.slice none 0 0, .slice none 0 0] 53)) (.cells #[.slice Ab b.length cb, .int .i64 0, .int .i64 0] 96)
  have hR0 := blk_new (w.alloc (.cells #[.slice none 0 0, .slice none 0 0] 53)) (.cells #[.slice Ab b.length cb, .int .i64 0, .int .i64 0] 96)
  have hb0 := @bl2 w (.cells #[.slice none 0 0, .slice none 0 0] 53) (.cells #[.slice Ab b.length cb, .int .i64 0, .int .i64 0] 96)
  have z1 : (w.alloc (.cells #[.slice none 0 0, .slice none 0 0] 53)).heap.size = w.heap.size + 1 := alsz
  rw [z1] at hR0
  clear hC hb z1
  go_enter Tryz.func13, Tryz.ntmps13
  go_wp2_with fail
  generalize hgr : w.heap.size + 1 = gr at hR0 ⊢
  have hgr1 : w.heap.size < gr := by omega
  clear hgr
  go_loopg [12] 3 (fun k v12 wr => ∃ (i : Nat) (s : Nat × Int), i + k = 3 ∧ v12 = .int .i64 i ∧ Aside0 (magG b (([84, 75, 49] : List Int).drop i) i s = magG b [84, 75, 49] 0 (0, 0)) ∧ Aside0 (Rd b Ab cb gr s wr) ∧ Aside0 (wr.heap[w.heap.size]? = some (.cells #[.slice none 0 0, .slice none 0 0] 53 (0, 0))) ∧ Below w.heap.size w wr)
  case atStart => exact ⟨0, (0, 0), rfl, rfl, ⟨rfl⟩, ⟨⟨hR0, Nat.zero_le _⟩⟩, ⟨hX0⟩, hb0⟩
  case round =>
    clear hR0 hX0 hb0
    obtain ⟨i, s, hi, rfl, ha, hR, hX, hbr⟩ := hrel
    by_cases ci : i < 3
    · go_wp2_with fail
      refine (reader_one.calls b Ab cb gr s w wr H.out HB.out hl hbr (Nat.le_of_lt hgr1) hR.out).mono ?_; rintro _ w2 ⟨rfl, hR2, hb2, hk2⟩
      have hX2 := Aside0.mk (blk_kept hX.out hk2 (by omega))
      have hab := Aside0.mk (show ∀ m r, ([84, 75, 49] : List Int).drop i = m :: r → (if (oneR b s).2.2 = 0 ∧ (oneR b s).1 ≠ m then ((oneR b s).2, some i) else magG b r (i + 1) (oneR b s).2) = magG b [84, 75, 49] 0 (0, 0) from fun m r hd => by have := ha.out; rw [hd] at this; exact this)
      obtain ⟨⟨at_, e⟩, hs2⟩ : ∃ s2, s2 = (oneR b s).2 := ⟨_, rfl⟩
      rw [← hs2] at hR2 hab
      generalize (oneR b s).1 = a at hab ⊢
      have hR3 := Aside0.mk hR2
      obtain ⟨x0, x1, x2⟩ := bx3 hR2.1
      have x2 : w2.cell? ⟨gr, 2, none⟩ = some (.int .i64 e) := x2
      clear ha hR hX hbr hk2 hs2 hR2 x0 x1
      have hcase : i = 0 ∨ i = 1 ∨ i = 2 := by omega
      rcases hcase with rfl | rfl | rfl
      · by_cases ce : e = 0
        · subst ce
          have hch := mag0
          by_cases ca : a = 84
          · have hac := Aside0.mk (show magG b [75, 49] 1 (at_, 0) = magG b [84, 75, 49] 0 (0, 0) by have := hab.out 84 [75, 49] rfl; rw [if_neg (fun h => h.2 ca)] at this; exact this)
            subst ca
            clear hab
            go_wp2
            go_roundg 2
            case measure => omega
            case rel => exact ⟨1, (at_, 0), by omega, by go_num, hac, hR3, hX2, hb2⟩
          · have hv := Aside0.mk (show decI b = (([], []), 0, 2) by have := hab.out 84 [75, 49] rfl; rw [if_pos ⟨rfl, ca⟩] at this; unfold decI; rw [← this]; rfl)
            have ca1 : (a != 84) = true := by simpa using ca
            have ca2 : (a == 84) = false := by simpa using ca
            clear hab ca
            go_wp2_with ((with_reducible refine gate_store (t := 53) (p := 2) (v := .tmp 29) rfl ?_); refine stB (w0 := w) (base := w.heap.size) (seg := [.slice none 0 0, .slice none 0 0]) (cs' := [.slice none 0 0, .slice none 0 0]) hX2.out hb2 (Nat.le_refl _) (h := fun wy hBy hby hgy => ?_))
            (try simp only [Exit.inBlock, Exit.then])
            refine bodyPost_ret (results_list (rs := [.cell 2 53, .tmp 3, .tmp 4]) rfl (by simp) (.cell _ 53 _ (0, 0) _ rfl hBy Tryz.underlying53 rfl (by kernel_rfl) (.tmp (.tmp .nil)))) rfl ?_
            exact ⟨none, 0, none, 0, by rw [hv.out]; rfl, by rw [hv.out]; exact Nat.le_refl 0, by rw [hv.out]; exact Kd.F_nil _ _ _, by rw [hv.out]; exact Nat.le_refl 0, by rw [hv.out]; exact Kd.F_nil _ _ _, hby⟩
        · have hac := Aside0.mk (show magG b [75, 49] 1 (at_, e) = magG b [84, 75, 49] 0 (0, 0) by have := hab.out 84 [75, 49] rfl; rw [if_neg (fun h => ce h.1)] at this; exact this)
          have ce1 : (e == 0) = false := by simpa using ce
          clear hab ce
          go_wp2
          go_roundg 2
          case measure => omega
          case rel => exact ⟨1, (at_, e), by omega, by go_num, hac, hR3, hX2, hb2⟩
      · by_cases ce : e = 0
        · subst ce
          have hch := mag1
          by_cases ca : a = 75
          · have hac := Aside0.mk (show magG b [49] 2 (at_, 0) = magG b [84, 75, 49] 0 (0, 0) by have := hab.out 75 [49] rfl; rw [if_neg (fun h => h.2 ca)] at this; exact this)
            subst ca
            clear hab
            go_wp2
            go_roundg 1
            case measure => omega
            case rel => exact ⟨2, (at_, 0), by omega, by go_num, hac, hR3, hX2, hb2⟩
          · have hv := Aside0.mk (show decI b = (([], []), 1, 2) by have := hab.out 75 [49] rfl; rw [if_pos ⟨rfl, ca⟩] at this; unfold decI; rw [← this]; rfl)
            have ca1 : (a != 75) = true := by simpa using ca
            have ca2 : (a == 75) = false := by simpa using ca
            clear hab ca
            go_wp2_with ((with_reducible refine gate_store (t := 53) (p := 2) (v := .tmp 29) rfl ?_); refine stB (w0 := w) (base := w.heap.size) (seg := [.slice none 0 0, .slice none 0 0]) (cs' := [.slice none 0 0, .slice none 0 0]) hX2.out hb2 (Nat.le_refl _) (h := fun wy hBy hby hgy => ?_))
            (try simp only [Exit.inBlock, Exit.then])
            refine bodyPost_ret (results_list (rs := [.cell 2 53, .tmp 3, .tmp 4]) rfl (by simp) (.cell _ 53 _ (0, 0) _ rfl hBy Tryz.underlying53 rfl (by kernel_rfl) (.tmp (.tmp .nil)))) rfl ?_
            exact ⟨none, 0, none, 0, by rw [hv.out]; rfl, by rw [hv.out]; exact Nat.le_refl 0, by rw [hv.out]; exact Kd.F_nil _ _ _, by rw [hv.out]; exact Nat.le_refl 0, by rw [hv.out]; exact Kd.F_nil _ _ _, hby⟩
        · have hac := Aside0.mk (show magG b [49] 2 (at_, e) = magG b [84, 75, 49] 0 (0, 0) by have := hab.out 75 [49] rfl; rw [if_neg (fun h => ce h.1)] at this; exact this)
          have ce1 : (e == 0) = false := by simpa using ce
          clear hab ce
          go_wp2
          go_roundg 1
          case measure => omega
          case rel => exact ⟨2, (at_, e), by omega, by go_num, hac, hR3, hX2, hb2⟩
      · by_cases ce : e = 0
        · subst ce
          have hch := mag2
          by_cases ca : a = 49
          · have hac := Aside0.mk (show magG b [] 3 (at_, 0) = magG b [84, 75, 49] 0 (0, 0) by have := hab.out 49 [] rfl; rw [if_neg (fun h => h.2 ca)] at this; exact this)
            subst ca
            clear hab
            go_wp2
            go_roundg 0
            case measure => omega
            case rel => exact ⟨3, (at_, 0), by omega, by go_num, hac, hR3, hX2, hb2⟩
          · have hv := Aside0.mk (show decI b = (([], []), 2, 2) by have := hab.out 49 [] rfl; rw [if_pos ⟨rfl, ca⟩] at this; unfold decI; rw [← this]; rfl)
            have ca1 : (a != 49) = true := by simpa using ca
            have ca2 : (a == 49) = false := by simpa using ca
            clear hab ca
            go_wp2_with ((with_reducible refine gate_store (t := 53) (p := 2) (v := .tmp 29) rfl ?_); refine stB (w0 := w) (base := w.heap.size) (seg := [.slice none 0 0, .slice none 0 0]) (cs' := [.slice none 0 0, .slice none 0 0]) hX2.out hb2 (Nat.le_refl _) (h := fun wy hBy hby hgy => ?_))
            (try simp only [Exit.inBlock, Exit.then])
            refine bodyPost_ret (results_list (rs := [.cell 2 53, .tmp 3, .tmp 4]) rfl (by simp) (.cell _ 53 _ (0, 0) _ rfl hBy Tryz.underlying53 rfl (by kernel_rfl) (.tmp (.tmp .nil)))) rfl ?_
            exact ⟨none, 0, none, 0, by rw [hv.out]; rfl, by rw [hv.out]; exact Nat.le_refl 0, by rw [hv.out]; exact Kd.F_nil _ _ _, by rw [hv.out]; exact Nat.le_refl 0, by rw [hv.out]; exact Kd.F_nil _ _ _, hby⟩
        · have hac := Aside0.mk (show magG b [] 3 (at_, e) = magG b [84, 75, 49] 0 (0, 0) by have := hab.out 49 [] rfl; rw [if_neg (fun h => ce h.1)] at this; exact this)
          have ce1 : (e == 0) = false := by simpa using ce
          clear hab ce
          go_wp2
          go_roundg 0
          case measure => omega
          case rel => exact ⟨3, (at_, e), by omega, by go_num, hac, hR3, hX2, hb2⟩
    · have : i = 3 := by omega
      subst this
      have hmg := Aside0.mk (show magG b [84, 75, 49] 0 (0, 0) = (s, none) by rw [← ha.out]; rfl)
      clear ha
      go_wp2_with fail
      refine (row_part.calls b Ab cb gr s w wr H.out HB.out hl hbr (Nat.le_of_lt hgr1) hR.out).mono ?_; rintro _ w2 ⟨v1, rfl, hN2, hR2, hb2, hk2⟩
      have hX2 := Aside0.mk (blk_kept hX.out hk2 (by omega))
      have hl1 := rowR_len HB.out (partD b) s
      have hbd := Aside0.mk (show bodI b s = (((rowR b (partD b) s).1, (rowR b (prtD b) (rowR b (partD b) s).2).1), (rowR b (prtD b) (rowR b (partD b) s).2).2) from rfl)
      obtain ⟨A1, c1, rfl⟩ := Kd.N_slice hN2
      have HN2 := Aside0.mk hN2
      have hsr := hbr.size
      have hgrl := blk_lt hR.out.1
      clear hN2 hR hX
      generalize (rowR b (partD b) s).2 = s2 at hbd hR2 ⊢
      generalize (rowR b (partD b) s).1 = ps at hbd HN2 hl1 ⊢
      have hs2 := hb2.size
      have hc1 := (Kd.N_reads' HN2.out).2.1
      have hR3 : Rd b Ab cb gr s2 (w2.alloc (.cells #[.slice A1 ps.length c1, .slice none 0 0] 53)) := ⟨blk_al hR2.1 _, hR2.2⟩
      have hb3 := below_alloc hb2 (.cells #[.slice A1 ps.length c1, .slice none 0 0] 53)
      have hY3 := Aside0.mk (blk_new w2 (.cells #[.slice A1 ps.length c1, .slice none 0 0] 53))
      have hX3 := Aside0.mk (blk_al hX2.out (.cells #[.slice A1 ps.length c1, .slice none 0 0] 53))
      have hk2s := hk2.1
      have G3 := Aside0.mk (Kd.F_alloc (Kd.F_mono (ok' := fun k => gr < k ∧ k < w2.heap.size) (Kd.F_bound (Kd.N_F HN2.out)) (fun k hk => ⟨by omega, hk.2⟩)) (.cells #[.slice A1 ps.length c1, .slice none 0 0] 53))
      have z3 : (w2.alloc (.cells #[.slice A1 ps.length c1, .slice none 0 0] 53)).heap.size = w2.heap.size + 1 := alsz
      clear HN2 hX2 hR2 hb2 hk2
      go_wp2_with fail
      generalize w2.alloc (.cells #[.slice A1 ps.length c1, .slice none 0 0] 53) = w3 at hR3 hb3 hY3 hX3 G3 z3 ⊢
      refine (row_prt.calls b Ab cb gr s2 w w3 H.out HB.out hl hb3 (Nat.le_of_lt hgr1) hR3).mono ?_; rintro _ w4 ⟨v2, rfl, hN4, hR4, hb4, hk4⟩
      have hX4 := Aside0.mk (blk_kept hX3.out hk4 (by omega))
      have hY4 := Aside0.mk (blk_kept hY3.out hk4 (by omega))
      have G4 := Aside0.mk (Kd.F_kept G3.out hk4 (fun k hk he => by omega))
      have hl2 := rowR_len HB.out (prtD b) s2
      obtain ⟨A2, c2, rfl⟩ := Kd.N_slice hN4
      have HN4 := Aside0.mk hN4
      have hs4 := hb4.size
      clear hN4 hk4 hR3 hX3 hY3 G3 hb3
      generalize (rowR b (prtD b) s2).2 = s4 at hbd hR4 ⊢
      generalize (rowR b (prtD b) s2).1 = qs at hbd HN4 hl2 ⊢
      have hc2 := (Kd.N_reads' HN4.out).2.1
      obtain ⟨at_, e⟩ := s4
      have hR4 := Aside0.mk hR4
      have hat : at_ ≤ b.length := hR4.out.2
      have hdec := Aside0.mk (show decI b = (if (bodI b s).2.2 = 0 then (if (bodI b s).2.1 < b.length then (([], []), (((bodI b s).2.1 : Nat) : Int), (2 : Int)) else (if imgR (bodI b s).1.1 (bodI b s).1.2 = true then ((bodI b s).1, 0, 0) else (([], []), 0, 1))) else (([], []), (b.length : Int), (bodI b s).2.2)) by unfold decI; rw [hmg.out])
      rw [hbd.out] at hdec
      clear hmg hbd
      by_cases ce : e = 0
      · by_cases ca : at_ < b.length
        · have hv := Aside0.mk (show decI b = (([], []), (at_ : Int), (2 : Int)) by rw [hdec.out]; exact (if_pos ce).trans (if_pos ca))
          subst ce
          clear hdec
          go_wp2_with ((with_reducible refine gate_store (t := 51) (p := 41) (v := .tmp 40) rfl ?_); refine stB (w0 := w) (base := w.heap.size) (seg := [.slice A2 qs.length c2]) (cs' := [.slice A1 ps.length c1, .slice A2 qs.length c2]) hY4.out hb4 hs2 (h := fun w5 hY5 hb5 hg5 => ?_); (have hR5 := blk_grown hR4.out.1 hg5 (fun he => by have := Option.some.inj he; omega)); (have hX5 := Aside0.mk (blk_grown hX4.out hg5 (fun he => by have := Option.some.inj he; omega))); (have G5 := Aside0.mk (Kd.F_grown G4.out hg5 (fun k hk he => by have := Option.some.inj he; omega))); (have HN5 := Aside0.mk (Kd.N_grown HN4.out hg5 (fun k hk he => by have := Option.some.inj he; omega))); (obtain ⟨x0, x1, x2⟩ := bx3 hR5); (replace hY5 := Aside0.mk hY5))
          refine st_ 8 (fun w' => Below w.heap.size w w' ∧ w'.cell? (⟨gr, 1, none⟩) = some (.int .i64 at_) ∧ w'.heap[w.heap.size]? = some (.cells #[.slice none 0 0, .slice none 0 0] 53 (0, 0)) ∧ w'.heap[gr]? = some (.cells #[.slice Ab b.length cb, .int .i64 at_, .int .i64 0] 96 (0, 0))) [] image_Decode.tab14 image_Decode.bits14 ⟨below_drew1 hb5, x1, blk_below hX5.out (below_drew (Below.refl _ w5)), blk_below hR5 (below_drew (Below.refl _ w5))⟩ (h := fun HT HW hHeld => ?_)
          repeat (first | refine pn_ HT (h := ?_) | refine tn_ HT HW hHeld (h := ?_) | refine zn_ HT (h := ?_))
          refine on_ HT (h := fun K hK => ?_)
          refine stB_step (w0 := w) (base := w.heap.size) (seg := [.slice none 0 0, .slice none 0 0]) (cs' := [.slice none 0 0, .slice none 0 0]) (hHeld.2.2.1) (hHeld.1) (Nat.le_refl _) (h := fun wy hBy hby hgy => ?_)
          have hRy := blk_grown (hHeld.2.2.2) hgy (fun he => by have := Option.some.inj he; omega)
          refine hK.out _ _ ⟨hby, (bx3 hRy).2.1, hBy, hRy⟩ (fun hHeld => ?_)
          repeat (first | refine pn_ HT (h := ?_) | refine zn_ HT (h := ?_))
          refine dn_ HT (h := ?_)
          clear HT HW
          go_wp2
          (try simp only [Exit.inBlock, Exit.then])
          refine bodyPost_ret (results_list (rs := [.cell 2 53, .tmp 3, .tmp 4]) rfl (by simp) (.cell _ 53 _ (0, 0) _ rfl hBy Tryz.underlying53 rfl (by kernel_rfl) (.tmp (.tmp .nil)))) rfl ?_
          exact ⟨none, 0, none, 0, by rw [hv.out]; rfl, by rw [hv.out]; exact Nat.le_refl 0, by rw [hv.out]; exact Kd.F_nil _ _ _, by rw [hv.out]; exact Nat.le_refl 0, by rw [hv.out]; exact Kd.F_nil _ _ _, hby⟩
        · have hdec2 := Aside0.mk (show decI b = if imgR ps qs = true then ((ps, qs), 0, 0) else (([], []), 0, 1) by rw [hdec.out]; exact (if_pos ce).trans (if_neg ca))
          subst ce
          clear hdec
          have ca2 : ¬ (at_ : Int) < (b.length : Int) := by omega
          go_wp2_with ((with_reducible refine gate_store (t := 51) (p := 41) (v := .tmp 40) rfl ?_); refine stB (w0 := w) (base := w.heap.size) (seg := [.slice A2 qs.length c2]) (cs' := [.slice A1 ps.length c1, .slice A2 qs.length c2]) hY4.out hb4 hs2 (h := fun w5 hY5 hb5 hg5 => ?_); (have hR5 := blk_grown hR4.out.1 hg5 (fun he => by have := Option.some.inj he; omega)); (have hX5 := Aside0.mk (blk_grown hX4.out hg5 (fun he => by have := Option.some.inj he; omega))); (have G5 := Aside0.mk (Kd.F_grown G4.out hg5 (fun k hk he => by have := Option.some.inj he; omega))); (have HN5 := Aside0.mk (Kd.N_grown HN4.out hg5 (fun k hk he => by have := Option.some.inj he; omega))); (obtain ⟨x0, x1, x2⟩ := bx3 hR5); (obtain ⟨y0, y1⟩ := bx2 hY5); (replace hY5 := Aside0.mk hY5))
          obtain ⟨y0, y1⟩ := bx2 hY5.out
          clear y0 y1
          refine (image_Right.calls A1 A2 c1 c2 ps qs w5 (Kd.F_now G5.out) (Kd.N_reads' HN5.out).2.2 (by omega) (by omega)).mono ?_; rintro _ w6 ⟨rfl, hb6⟩
          have hb7 := below_step hb5 hb6
          have hY7 := Aside0.mk (blk_below hY5.out hb6)
          have hX7 := Aside0.mk (blk_below hX5.out hb6)
          have G7 := Aside0.mk (Kd.F_below G5.out hb6)
          have HN7 := Aside0.mk (Kd.N_below HN5.out hb6)
          have hs7 := hb7.size
          clear x0 x1 x2
          obtain ⟨y0, y1⟩ := bx2 hY7.out
          cases hi : imgR ps qs with
          | false =>
            have hv := Aside0.mk (show decI b = (([], []), 0, 1) by rw [hdec2.out, hi]; rfl)
            clear hi hdec2
            go_wp2_with ((with_reducible refine gate_store (t := 53) (p := 2) (v := .tmp 72) rfl ?_); refine stB (w0 := w) (base := w.heap.size) (seg := [.slice none 0 0, .slice none 0 0]) (cs' := [.slice none 0 0, .slice none 0 0]) hX7.out hb7 (Nat.le_refl _) (h := fun wy hBy hby hgy => ?_))
            (try simp only [Exit.inBlock, Exit.then])
            refine bodyPost_ret (results_list (rs := [.cell 2 53, .tmp 3, .tmp 4]) rfl (by simp) (.cell _ 53 _ (0, 0) _ rfl hBy Tryz.underlying53 rfl (by kernel_rfl) (.tmp (.tmp .nil)))) rfl ?_
            exact ⟨none, 0, none, 0, by rw [hv.out]; rfl, by rw [hv.out]; exact Nat.le_refl 0, by rw [hv.out]; exact Kd.F_nil _ _ _, by rw [hv.out]; exact Nat.le_refl 0, by rw [hv.out]; exact Kd.F_nil _ _ _, hby⟩
          | true =>
            have hv := Aside0.mk (show decI b = ((ps, qs), 0, 0) by rw [hdec2.out, hi]; rfl)
            clear hi hdec2
            go_wp2_with ((with_reducible refine gate_store (t := 53) (p := 2) (v := .tmp 73) rfl ?_); refine stB (w0 := w) (base := w.heap.size) (seg := [.slice A1 ps.length c1, .slice A2 qs.length c2]) (cs' := [.slice A1 ps.length c1, .slice A2 qs.length c2]) hX7.out hb7 (Nat.le_refl _) (h := fun wy hBy hby hgy => ?_))
            (try simp only [Exit.inBlock, Exit.then])
            refine bodyPost_ret (results_list (rs := [.cell 2 53, .tmp 3, .tmp 4]) rfl (by simp) (.cell _ 53 _ (0, 0) _ rfl hBy Tryz.underlying53 rfl (by kernel_rfl) (.tmp (.tmp .nil)))) rfl ?_
            exact ⟨A1, c1, A2, c2, by rw [hv.out]; rfl, by rw [hv.out]; exact hc1, by rw [hv.out]; exact Kd.F_mono (Kd.F_grown G7.out hgy (fun k hk he => by have := Option.some.inj he; omega)) (fun k hk => by omega), by rw [hv.out]; exact hc2, by rw [hv.out]; exact Kd.F_mono (Kd.N_F (Kd.N_grown HN7.out hgy (fun k hk he => by have := Option.some.inj he; omega))) (fun k hk => by omega), hby⟩
      · have hv := Aside0.mk (show decI b = (([], []), (b.length : Int), e) by rw [hdec.out]; exact if_neg ce)
        have ce1 : (e == 0) = false := by simpa using ce
        have ce2 : (e != 0) = true := by simpa using ce
        clear ce hdec
        go_wp2_with ((with_reducible refine gate_store (t := 51) (p := 41) (v := .tmp 40) rfl ?_); refine stB (w0 := w) (base := w.heap.size) (seg := [.slice A2 qs.length c2]) (cs' := [.slice A1 ps.length c1, .slice A2 qs.length c2]) hY4.out hb4 hs2 (h := fun w5 hY5 hb5 hg5 => ?_); (have hR5 := blk_grown hR4.out.1 hg5 (fun he => by have := Option.some.inj he; omega)); (have hX5 := Aside0.mk (blk_grown hX4.out hg5 (fun he => by have := Option.some.inj he; omega))); (have G5 := Aside0.mk (Kd.F_grown G4.out hg5 (fun k hk he => by have := Option.some.inj he; omega))); (have HN5 := Aside0.mk (Kd.N_grown HN4.out hg5 (fun k hk he => by have := Option.some.inj he; omega))); (obtain ⟨x0, x1, x2⟩ := bx3 hR5); (replace hY5 := Aside0.mk hY5))
        refine st_ 10 (fun w' => Below w.heap.size w w' ∧ w'.cell? (⟨gr, 2, none⟩) = some (.int .i64 e) ∧ w'.heap[w.heap.size]? = some (.cells #[.slice none 0 0, .slice none 0 0] 53 (0, 0)) ∧ w'.heap[gr]? = some (.cells #[.slice Ab b.length cb, .int .i64 at_, .int .i64 e] 96 (0, 0))) [] image_Decode.tab12 image_Decode.bits12 ⟨below_drew1 hb5, x2, blk_below hX5.out (below_drew (Below.refl _ w5)), blk_below hR5 (below_drew (Below.refl _ w5))⟩ (h := fun HT HW hHeld => ?_)
        repeat (first | refine pn_ HT (h := ?_) | refine tn_ HT HW hHeld (h := ?_) | refine zn_ HT (h := ?_))
        refine on_ HT (h := fun K hK => ?_)
        refine stB_step (w0 := w) (base := w.heap.size) (seg := [.slice none 0 0, .slice none 0 0]) (cs' := [.slice none 0 0, .slice none 0 0]) (hHeld.2.2.1) (hHeld.1) (Nat.le_refl _) (h := fun wy hBy hby hgy => ?_)
        have hRy := blk_grown (hHeld.2.2.2) hgy (fun he => by have := Option.some.inj he; omega)
        refine hK.out _ _ ⟨hby, (bx3 hRy).2.2, hBy, hRy⟩ (fun hHeld => ?_)
        repeat (first | refine pn_ HT (h := ?_) | refine zn_ HT (h := ?_))
        refine dn_ HT (h := ?_)
        clear HT HW
        go_wp2
        (try simp only [Exit.inBlock, Exit.then])
        refine bodyPost_ret (results_list (rs := [.cell 2 53, .tmp 3, .tmp 4]) rfl (by simp) (.cell _ 53 _ (0, 0) _ rfl hBy Tryz.underlying53 rfl (by kernel_rfl) (.tmp (.tmp .nil)))) rfl ?_
        exact ⟨none, 0, none, 0, by rw [hv.out]; rfl, by rw [hv.out]; exact Nat.le_refl 0, by rw [hv.out]; exact Kd.F_nil _ _ _, by rw [hv.out]; exact Nat.le_refl 0, by rw [hv.out]; exact Kd.F_nil _ _ _, hby⟩
structure S66 where
  f0 : Int
  f1 : List S153
  f2 : List S85
  f3 : List S80
  f4 : List S135
  f5 : Int
def z66 : S66 := ⟨0, [], [], [], [], 0⟩
def k66 : Kd S66 := Kd.iso (Kd.pair (Kd.int .i64) (Kd.pair (Kd.slice 153 k153) (Kd.pair (Kd.slice 85 k85) (Kd.pair (Kd.slice 80 k80) (Kd.pair (Kd.slice 135 k135) (Kd.int .i64)))))) (fun x : S66 => (x.f0, x.f1, x.f2, x.f3, x.f4, x.f5))
theorem k66_open {w : World} {x : S66} {cs : List Value} (h : k66.K w x cs) : ∃ A1 c1 A2 c2 A3 c3 A4 c4, cs = [.int .i64 x.f0, .slice A1 x.f1.length c1, .slice A2 x.f2.length c2, .slice A3 x.f3.length c3, .slice A4 x.f4.length c4, .int .i64 x.f5] ∧ x.f1.length ≤ c1 ∧ Kd.C k153 w A1 x.f1.length x.f1 ∧ x.f2.length ≤ c2 ∧ Kd.C k85 w A2 x.f2.length x.f2 ∧ x.f3.length ≤ c3 ∧ Kd.C k80 w A3 x.f3.length x.f3 ∧ x.f4.length ≤ c4 ∧ Kd.C k135 w A4 x.f4.length x.f4 := by
  obtain ⟨_, _, rfl, rfl, ⟨_, _, rfl, ⟨A1, c1, rfl, l1, g1⟩, ⟨_, _, rfl, ⟨A2, c2, rfl, l2, g2⟩, ⟨_, _, rfl, ⟨A3, c3, rfl, l3, g3⟩, ⟨_, _, rfl, ⟨A4, c4, rfl, l4, g4⟩, rfl⟩⟩⟩⟩⟩ := h
  exact ⟨A1, c1, A2, c2, A3, c3, A4, c4, rfl, l1, g1, l2, g2, l3, g3, l4, g4⟩
theorem k66_mk (w : World) (x : S66) {A1 : Option Addr} {c1 : Nat} (l1 : x.f1.length ≤ c1) (g1 : Kd.C k153 w A1 x.f1.length x.f1) {A2 : Option Addr} {c2 : Nat} (l2 : x.f2.length ≤ c2) (g2 : Kd.C k85 w A2 x.f2.length x.f2) {A3 : Option Addr} {c3 : Nat} (l3 : x.f3.length ≤ c3) (g3 : Kd.C k80 w A3 x.f3.length x.f3) {A4 : Option Addr} {c4 : Nat} (l4 : x.f4.length ≤ c4) (g4 : Kd.C k135 w A4 x.f4.length x.f4) : k66.K w x [.int .i64 x.f0, .slice A1 x.f1.length c1, .slice A2 x.f2.length c2, .slice A3 x.f3.length c3, .slice A4 x.f4.length c4, .int .i64 x.f5] := ⟨[.int .i64 x.f0], [.slice A1 x.f1.length c1, .slice A2 x.f2.length c2, .slice A3 x.f3.length c3, .slice A4 x.f4.length c4, .int .i64 x.f5], rfl, rfl, ⟨[.slice A1 x.f1.length c1], [.slice A2 x.f2.length c2, .slice A3 x.f3.length c3, .slice A4 x.f4.length c4, .int .i64 x.f5], rfl, ⟨A1, c1, rfl, l1, g1⟩, ⟨[.slice A2 x.f2.length c2], [.slice A3 x.f3.length c3, .slice A4 x.f4.length c4, .int .i64 x.f5], rfl, ⟨A2, c2, rfl, l2, g2⟩, ⟨[.slice A3 x.f3.length c3], [.slice A4 x.f4.length c4, .int .i64 x.f5], rfl, ⟨A3, c3, rfl, l3, g3⟩, ⟨[.slice A4 x.f4.length c4], [.int .i64 x.f5], rfl, ⟨A4, c4, rfl, l4, g4⟩, rfl⟩⟩⟩⟩⟩
theorem k66_openF {W : World} {ok : Nat → Prop} {x : S66} {cs : List Value} (h : Kd.FK k66 W ok x cs) : ∃ A1 c1 A2 c2 A3 c3 A4 c4, cs = [.int .i64 x.f0, .slice A1 x.f1.length c1, .slice A2 x.f2.length c2, .slice A3 x.f3.length c3, .slice A4 x.f4.length c4, .int .i64 x.f5] ∧ x.f1.length ≤ c1 ∧ Kd.F k153 W ok A1 x.f1.length x.f1 ∧ x.f2.length ≤ c2 ∧ Kd.F k85 W ok A2 x.f2.length x.f2 ∧ x.f3.length ≤ c3 ∧ Kd.F k80 W ok A3 x.f3.length x.f3 ∧ x.f4.length ≤ c4 ∧ Kd.F k135 W ok A4 x.f4.length x.f4 := by
  obtain ⟨A1, c1, A2, c2, A3, c3, A4, c4, rfl, l1, _, l2, _, l3, _, l4, _⟩ := k66_open (Kd.FK_now h)
  exact ⟨A1, c1, A2, c2, A3, c3, A4, c4, rfl, l1, (fun W' hW => by obtain ⟨A1_, c1_, A2_, c2_, A3_, c3_, A4_, c4_, he, l1_, g1_, l2_, g2_, l3_, g3_, l4_, g4_⟩ := k66_open (h W' hW); injection (Option.some.inj (show some (Value.slice A1 x.f1.length c1) = some (Value.slice A1_ x.f1.length c1_) from congrArg (fun l => l[1]?) he)) with ha_ _ _; rw [ha_]; exact g1_), l2, (fun W' hW => by obtain ⟨A1_, c1_, A2_, c2_, A3_, c3_, A4_, c4_, he, l1_, g1_, l2_, g2_, l3_, g3_, l4_, g4_⟩ := k66_open (h W' hW); injection (Option.some.inj (show some (Value.slice A2 x.f2.length c2) = some (Value.slice A2_ x.f2.length c2_) from congrArg (fun l => l[2]?) he)) with ha_ _ _; rw [ha_]; exact g2_), l3, (fun W' hW => by obtain ⟨A1_, c1_, A2_, c2_, A3_, c3_, A4_, c4_, he, l1_, g1_, l2_, g2_, l3_, g3_, l4_, g4_⟩ := k66_open (h W' hW); injection (Option.some.inj (show some (Value.slice A3 x.f3.length c3) = some (Value.slice A3_ x.f3.length c3_) from congrArg (fun l => l[3]?) he)) with ha_ _ _; rw [ha_]; exact g3_), l4, (fun W' hW => by obtain ⟨A1_, c1_, A2_, c2_, A3_, c3_, A4_, c4_, he, l1_, g1_, l2_, g2_, l3_, g3_, l4_, g4_⟩ := k66_open (h W' hW); injection (Option.some.inj (show some (Value.slice A4 x.f4.length c4) = some (Value.slice A4_ x.f4.length c4_) from congrArg (fun l => l[4]?) he)) with ha_ _ _; rw [ha_]; exact g4_)⟩
theorem k66_mkF (W : World) (ok : Nat → Prop) (x : S66) {A1 : Option Addr} {c1 : Nat} (l1 : x.f1.length ≤ c1) (g1 : Kd.F k153 W ok A1 x.f1.length x.f1) {A2 : Option Addr} {c2 : Nat} (l2 : x.f2.length ≤ c2) (g2 : Kd.F k85 W ok A2 x.f2.length x.f2) {A3 : Option Addr} {c3 : Nat} (l3 : x.f3.length ≤ c3) (g3 : Kd.F k80 W ok A3 x.f3.length x.f3) {A4 : Option Addr} {c4 : Nat} (l4 : x.f4.length ≤ c4) (g4 : Kd.F k135 W ok A4 x.f4.length x.f4) : Kd.FK k66 W ok x [.int .i64 x.f0, .slice A1 x.f1.length c1, .slice A2 x.f2.length c2, .slice A3 x.f3.length c3, .slice A4 x.f4.length c4, .int .i64 x.f5] := fun W2 hW => k66_mk W2 x l1 (g1 W2 hW) l2 (g2 W2 hW) l3 (g3 W2 hW) l4 (g4 W2 hW)
structure S36 where
  f0 : List S73
  f1 : List Int
  f2 : List S38
def z36 : S36 := ⟨[], [], []⟩
def k36 : Kd S36 := Kd.iso (Kd.pair (Kd.slice 73 k73) (Kd.pair (Kd.slice 3 (Kd.int .i64)) (Kd.slice 38 k38))) (fun x : S36 => (x.f0, x.f1, x.f2))
theorem k36_open {w : World} {x : S36} {cs : List Value} (h : k36.K w x cs) : ∃ A0 c0 A1 c1 A2 c2, cs = [.slice A0 x.f0.length c0, .slice A1 x.f1.length c1, .slice A2 x.f2.length c2] ∧ x.f0.length ≤ c0 ∧ Kd.C k73 w A0 x.f0.length x.f0 ∧ x.f1.length ≤ c1 ∧ Kd.C (Kd.int .i64) w A1 x.f1.length x.f1 ∧ x.f2.length ≤ c2 ∧ Kd.C k38 w A2 x.f2.length x.f2 := by
  obtain ⟨_, _, rfl, ⟨A0, c0, rfl, l0, g0⟩, ⟨_, _, rfl, ⟨A1, c1, rfl, l1, g1⟩, ⟨A2, c2, rfl, l2, g2⟩⟩⟩ := h
  exact ⟨A0, c0, A1, c1, A2, c2, rfl, l0, g0, l1, g1, l2, g2⟩
theorem k36_mk (w : World) (x : S36) {A0 : Option Addr} {c0 : Nat} (l0 : x.f0.length ≤ c0) (g0 : Kd.C k73 w A0 x.f0.length x.f0) {A1 : Option Addr} {c1 : Nat} (l1 : x.f1.length ≤ c1) (g1 : Kd.C (Kd.int .i64) w A1 x.f1.length x.f1) {A2 : Option Addr} {c2 : Nat} (l2 : x.f2.length ≤ c2) (g2 : Kd.C k38 w A2 x.f2.length x.f2) : k36.K w x [.slice A0 x.f0.length c0, .slice A1 x.f1.length c1, .slice A2 x.f2.length c2] := ⟨[.slice A0 x.f0.length c0], [.slice A1 x.f1.length c1, .slice A2 x.f2.length c2], rfl, ⟨A0, c0, rfl, l0, g0⟩, ⟨[.slice A1 x.f1.length c1], [.slice A2 x.f2.length c2], rfl, ⟨A1, c1, rfl, l1, g1⟩, ⟨A2, c2, rfl, l2, g2⟩⟩⟩
theorem k36_openF {W : World} {ok : Nat → Prop} {x : S36} {cs : List Value} (h : Kd.FK k36 W ok x cs) : ∃ A0 c0 A1 c1 A2 c2, cs = [.slice A0 x.f0.length c0, .slice A1 x.f1.length c1, .slice A2 x.f2.length c2] ∧ x.f0.length ≤ c0 ∧ Kd.F k73 W ok A0 x.f0.length x.f0 ∧ x.f1.length ≤ c1 ∧ Kd.F (Kd.int .i64) W ok A1 x.f1.length x.f1 ∧ x.f2.length ≤ c2 ∧ Kd.F k38 W ok A2 x.f2.length x.f2 := by
  obtain ⟨A0, c0, A1, c1, A2, c2, rfl, l0, _, l1, _, l2, _⟩ := k36_open (Kd.FK_now h)
  exact ⟨A0, c0, A1, c1, A2, c2, rfl, l0, (fun W' hW => by obtain ⟨A0_, c0_, A1_, c1_, A2_, c2_, he, l0_, g0_, l1_, g1_, l2_, g2_⟩ := k36_open (h W' hW); injection (Option.some.inj (show some (Value.slice A0 x.f0.length c0) = some (Value.slice A0_ x.f0.length c0_) from congrArg (fun l => l[0]?) he)) with ha_ _ _; rw [ha_]; exact g0_), l1, (fun W' hW => by obtain ⟨A0_, c0_, A1_, c1_, A2_, c2_, he, l0_, g0_, l1_, g1_, l2_, g2_⟩ := k36_open (h W' hW); injection (Option.some.inj (show some (Value.slice A1 x.f1.length c1) = some (Value.slice A1_ x.f1.length c1_) from congrArg (fun l => l[1]?) he)) with ha_ _ _; rw [ha_]; exact g1_), l2, (fun W' hW => by obtain ⟨A0_, c0_, A1_, c1_, A2_, c2_, he, l0_, g0_, l1_, g1_, l2_, g2_⟩ := k36_open (h W' hW); injection (Option.some.inj (show some (Value.slice A2 x.f2.length c2) = some (Value.slice A2_ x.f2.length c2_) from congrArg (fun l => l[2]?) he)) with ha_ _ _; rw [ha_]; exact g2_)⟩
theorem el80F {w : World} {ok : Nat → Prop} {A : Option Addr} {l : List S80} (h : Kd.F k80 w ok A l.length l) (i : Nat) (hi : i < l.length) : ∃ (ad : Addr) (A0 : Option Addr) (c0 : Nat) (A1 : Option Addr) (c1 : Nat) (A2 : Option Addr) (c2 : Nat) (A3 : Option Addr) (c3 : Nat) (A4 : Option Addr) (c4 : Nat) (t : S80), A = some ad ∧ Aside0 (l[i] = t) ∧ w.cell? (ad.add (i * 5)) = some (.slice A0 t.f0.length c0) ∧ w.cell? ⟨(ad.add (i * 5)).block, (ad.add (i * 5)).off + 1, none⟩ = some (.slice A1 t.f1.length c1) ∧ w.cell? ⟨(ad.add (i * 5)).block, (ad.add (i * 5)).off + 2, none⟩ = some (.slice A2 t.f2.length c2) ∧ w.cell? ⟨(ad.add (i * 5)).block, (ad.add (i * 5)).off + 3, none⟩ = some (.slice A3 t.f3.length c3) ∧ w.cell? ⟨(ad.add (i * 5)).block, (ad.add (i * 5)).off + 4, none⟩ = some (.slice A4 t.f4.length c4) ∧ t.f0.length ≤ c0 ∧ Kd.F k44 w ok A0 t.f0.length t.f0 ∧ t.f1.length ≤ c1 ∧ Kd.F Kd.bool w ok A1 t.f1.length t.f1 ∧ t.f2.length ≤ c2 ∧ Kd.F (Kd.int .i64) w ok A2 t.f2.length t.f2 ∧ t.f3.length ≤ c3 ∧ Kd.F k182 w ok A3 t.f3.length t.f3 ∧ t.f4.length ≤ c4 ∧ Kd.F k38 w ok A4 t.f4.length t.f4 := by
  obtain ⟨ad, c, hA, hcl, hK, hc, -⟩ := Kd.F_get h z80 (i : Int) (by omega) (by omega)
  have hq : l.getD (i : Int).toNat z80 = l[i] := by rw [Int.toNat_natCast, List.getD_eq_getElem?_getD, List.getElem?_eq_getElem hi, Option.getD_some]
  rw [hq] at hK
  rw [Int.toNat_natCast] at hc
  obtain ⟨A0, c0, A1, c1, A2, c2, A3, c3, A4, c4, rfl, l0, g0, l1, g1, l2, g2, l3, g3, l4, g4⟩ := k80_openF hK
  have hc : ∀ j u, [.slice A0 l[i].f0.length c0, .slice A1 l[i].f1.length c1, .slice A2 l[i].f2.length c2, .slice A3 l[i].f3.length c3, .slice A4 l[i].f4.length c4][j]? = some u → w.cell? (ad.add (i * 5 + j)) = some u := hc
  exact ⟨ad, A0, c0, A1, c1, A2, c2, A3, c3, A4, c4, l[i], hA, ⟨rfl⟩, hc 0 _ rfl, by rw [← add_field _ _ 1 (by omega)]; exact hc 1 _ rfl, by rw [← add_field _ _ 2 (by omega)]; exact hc 2 _ rfl, by rw [← add_field _ _ 3 (by omega)]; exact hc 3 _ rfl, by rw [← add_field _ _ 4 (by omega)]; exact hc 4 _ rfl, l0, g0, l1, g1, l2, g2, l3, g3, l4, g4⟩
theorem el46F {w : World} {ok : Nat → Prop} {A : Option Addr} {l : List S46} (h : Kd.F k46 w ok A l.length l) (i : Nat) (hi : i < l.length) : ∃ (ad : Addr) (A7 : Option Addr) (c7 : Nat) (t : S46), A = some ad ∧ Aside0 (l[i] = t) ∧ w.cell? (ad.add (i * 8)) = some (.int .i64 t.f0) ∧ w.cell? ⟨(ad.add (i * 8)).block, (ad.add (i * 8)).off + 1, none⟩ = some (.int .i64 t.f1) ∧ w.cell? ⟨(ad.add (i * 8)).block, (ad.add (i * 8)).off + 2, none⟩ = some (.int .i64 t.f2) ∧ w.cell? ⟨(ad.add (i * 8)).block, (ad.add (i * 8)).off + 3, none⟩ = some (.int .i64 t.f3) ∧ w.cell? ⟨(ad.add (i * 8)).block, (ad.add (i * 8)).off + 4, none⟩ = some (.int .i64 t.f4.f0) ∧ w.cell? ⟨(ad.add (i * 8)).block, (ad.add (i * 8)).off + 5, none⟩ = some (.int .i64 t.f4.f1) ∧ w.cell? ⟨(ad.add (i * 8)).block, (ad.add (i * 8)).off + 6, none⟩ = some (.int .i64 t.f4.f2) ∧ w.cell? ⟨(ad.add (i * 8)).block, (ad.add (i * 8)).off + 7, none⟩ = some (.slice A7 t.f4.f3.length c7) ∧ t.f4.f3.length ≤ c7 ∧ Kd.F k89 w ok A7 t.f4.f3.length t.f4.f3 := by
  obtain ⟨ad, c, hA, hcl, hK, hc, -⟩ := Kd.F_get h z46 (i : Int) (by omega) (by omega)
  have hq : l.getD (i : Int).toNat z46 = l[i] := by rw [Int.toNat_natCast, List.getD_eq_getElem?_getD, List.getElem?_eq_getElem hi, Option.getD_some]
  rw [hq] at hK
  rw [Int.toNat_natCast] at hc
  obtain ⟨A7, c7, rfl, l7, g7⟩ := k46_openF hK
  have hc : ∀ j u, [.int .i64 l[i].f0, .int .i64 l[i].f1, .int .i64 l[i].f2, .int .i64 l[i].f3, .int .i64 l[i].f4.f0, .int .i64 l[i].f4.f1, .int .i64 l[i].f4.f2, .slice A7 l[i].f4.f3.length c7][j]? = some u → w.cell? (ad.add (i * 8 + j)) = some u := hc
  exact ⟨ad, A7, c7, l[i], hA, ⟨rfl⟩, hc 0 _ rfl, by rw [← add_field _ _ 1 (by omega)]; exact hc 1 _ rfl, by rw [← add_field _ _ 2 (by omega)]; exact hc 2 _ rfl, by rw [← add_field _ _ 3 (by omega)]; exact hc 3 _ rfl, by rw [← add_field _ _ 4 (by omega)]; exact hc 4 _ rfl, by rw [← add_field _ _ 5 (by omega)]; exact hc 5 _ rfl, by rw [← add_field _ _ 6 (by omega)]; exact hc 6 _ rfl, by rw [← add_field _ _ 7 (by omega)]; exact hc 7 _ rfl, l7, g7⟩
theorem el36F {w : World} {ok : Nat → Prop} {A : Option Addr} {l : List S36} (h : Kd.F k36 w ok A l.length l) (i : Nat) (hi : i < l.length) : ∃ (ad : Addr) (A0 : Option Addr) (c0 : Nat) (A1 : Option Addr) (c1 : Nat) (A2 : Option Addr) (c2 : Nat) (t : S36), A = some ad ∧ Aside0 (l[i] = t) ∧ w.cell? (ad.add (i * 3)) = some (.slice A0 t.f0.length c0) ∧ w.cell? ⟨(ad.add (i * 3)).block, (ad.add (i * 3)).off + 1, none⟩ = some (.slice A1 t.f1.length c1) ∧ w.cell? ⟨(ad.add (i * 3)).block, (ad.add (i * 3)).off + 2, none⟩ = some (.slice A2 t.f2.length c2) ∧ t.f0.length ≤ c0 ∧ Kd.F k73 w ok A0 t.f0.length t.f0 ∧ t.f1.length ≤ c1 ∧ Kd.F (Kd.int .i64) w ok A1 t.f1.length t.f1 ∧ t.f2.length ≤ c2 ∧ Kd.F k38 w ok A2 t.f2.length t.f2 := by
  obtain ⟨ad, c, hA, hcl, hK, hc, -⟩ := Kd.F_get h z36 (i : Int) (by omega) (by omega)
  have hq : l.getD (i : Int).toNat z36 = l[i] := by rw [Int.toNat_natCast, List.getD_eq_getElem?_getD, List.getElem?_eq_getElem hi, Option.getD_some]
  rw [hq] at hK
  rw [Int.toNat_natCast] at hc
  obtain ⟨A0, c0, A1, c1, A2, c2, rfl, l0, g0, l1, g1, l2, g2⟩ := k36_openF hK
  have hc : ∀ j u, [.slice A0 l[i].f0.length c0, .slice A1 l[i].f1.length c1, .slice A2 l[i].f2.length c2][j]? = some u → w.cell? (ad.add (i * 3 + j)) = some u := hc
  exact ⟨ad, A0, c0, A1, c1, A2, c2, l[i], hA, ⟨rfl⟩, hc 0 _ rfl, by rw [← add_field _ _ 1 (by omega)]; exact hc 1 _ rfl, by rw [← add_field _ _ 2 (by omega)]; exact hc 2 _ rfl, l0, g0, l1, g1, l2, g2⟩
def kerR (s : S66) : Bool := s.f3.all partR && tabR s.f0 s.f1 && decide (s.f2.length = s.f3.length) && decide (s.f3.length ≤ 4) && portR s.f4 && decide (0 ≤ s.f5 ∧ s.f5 ≤ 4611686018427387703) && s.f2.all supR
theorem kerR_iff {s : S66} : kerR s = true ↔ (∀ p ∈ s.f3, partR p = true) ∧ tabR s.f0 s.f1 = true ∧ s.f2.length = s.f3.length ∧ s.f3.length ≤ 4 ∧ portR s.f4 = true ∧ (0 ≤ s.f5 ∧ s.f5 ≤ 4611686018427387703) ∧ ∀ f ∈ s.f2, supR f = true := by simp [kerR, and_assoc]
theorem kernel_Right.calls (s : S66) (cs : List Value) (ok : Nat → Prop) (w : World) (h : Kd.FK k66 w ok s cs) (hR : kerR s = true) : Ret 33 #[.agg cs.toArray] w (.bool true) := by
  have hu := Tryz.underlying66
  have hu2 := Tryz.underlying61
  have hu3 := Tryz.underlying80
  obtain ⟨A1, c1, A2, c2, A3, c3, A4, c4, rfl, l1, g1, l2, g2, l3, g3, l4, g4⟩ := k66_openF h
  obtain ⟨hp, ht, hfl, hl4, hpo, hn, -⟩ := kerR_iff.1 hR
  have HP := Aside0.mk hp
  have HT1 := Aside0.mk ht
  have HPO := Aside0.mk hpo
  have G1 := Aside0.mk (Kd.F_now g1)
  have G3 := Aside0.mk (Kd.F_bound g3)
  have G4 := Aside0.mk (Kd.F_now g4)
  have HQ := Aside0.mk (show ((s.f2.length : Int) == s.f3.length) = true by rw [hfl]; simp)
  clear h hR hp ht hpo g1 g2 g3 g4 hfl
  have hX0 := blk_new w (.cells #[.int .i64 s.f0, .slice A1 s.f1.length c1, .slice A2 s.f2.length c2, .slice A3 s.f3.length c3, .slice A4 s.f4.length c4, .int .i64 s.f5] 66)
  go_enter Tryz.func33, Tryz.ntmps33
  go_wp2
  go_loopg [8] s.f3.length (fun k v8 wr => ∃ i : Nat, i + k = s.f3.length ∧ v8 = .int .i64 i ∧ wr.heap[w.heap.size]? = some (.cells #[.int .i64 s.f0, .slice A1 s.f1.length c1, .slice A2 s.f2.length c2, .slice A3 s.f3.length c3, .slice A4 s.f4.length c4, .int .i64 s.f5] 66 (0, 0)) ∧ Below w.heap.size w wr)
  case atStart => exact ⟨0, by omega, by go_num, hX0, bl1⟩
  case round =>
    obtain ⟨i, hi, rfl, hX, hbr⟩ := hrel
    have hlt := (Array.getElem?_eq_some_iff.1 hX).1
    by_cases ci : i < s.f3.length
    · obtain ⟨ad, B0, d0, B1, d1, B2, d2, B3, d3, B4, d4, x, rfl, hx, e0, e1, e2, e3, e4, m0, q0, m1, q1, m2, q2, m3, q3, m4, q4⟩ := el80F (Kd.F_below G3.out hbr) i ci
      have HK := Aside0.mk (k80_mkF _ _ x m0 q0 m1 q1 m2 q2 m3 q3 m4 q4)
      have HR := Aside0.mk (show partR x = true by rw [← hx.out]; exact HP.out _ (List.getElem_mem ci))
      clear q0 q1 q2 q3 q4
      go_wp2_with fail
      refine (part_Right.calls x _ _ _ (Kd.FK_below HK.out bl1)).mono ?_; rintro _ w2 ⟨rfl, hb2⟩
      rw [HR.out]
      have hX2 := blk_below (blk_al hX (.cells #[.slice B0 x.f0.length d0, .slice B1 x.f1.length d1, .slice B2 x.f2.length d2, .slice B3 x.f3.length d3, .slice B4 x.f4.length d4] 80)) hb2
      have hb3 := below_step (below_alloc hbr (.cells #[.slice B0 x.f0.length d0, .slice B1 x.f1.length d1, .slice B2 x.f2.length d2, .slice B3 x.f3.length d3, .slice B4 x.f4.length d4] 80)) hb2
      clear e0 e1 e2 e3 e4 hb2
      go_wp2
      go_roundg (s.f3.length - i - 1)
      case measure => omega
      case rel => exact ⟨i + 1, by omega, by go_num, hX2, hb3⟩
    · generalize w.heap.size = gx at hX hlt ⊢
      obtain ⟨z0, z1, z2, z3, z4, z5⟩ := bx6 hX
      go_wp2_with fail
      refine (table_Right.calls s.f0 A1 c1 s.f1 _ (Kd.C_below G1.out hbr) HT1.out).mono ?_; rintro _ w2 ⟨rfl, hb2⟩
      have hX2 := blk_below hX hb2
      have hb3 := below_step hbr hb2
      have G4b := Aside0.mk (Kd.C_below G4.out hb3)
      have hq := HQ.out
      clear z0 z1 z2 z3 z4 z5
      obtain ⟨z0, z1, z2, z3, z4, z5⟩ := bx6 hX2
      go_wp2_with fail
      refine (port_Right.calls A4 c4 s.f4 _ G4b.out HPO.out).mono ?_; rintro _ w4 ⟨rfl, hb4⟩
      have hX4 := blk_below hX2 hb4
      have hb5 := below_step hb3 hb4
      clear z0 z1 z2 z3 z4 z5
      obtain ⟨z0, z1, z2, z3, z4, z5⟩ := bx6 hX4
      go_wp2
      go_ret
      exact ⟨rb (by simp), hb5⟩
theorem stop_ {p : Prop} (h : Aside0 p) : p := h.out
def withP (s : S66) (i : Nat) (p : S80) : S66 := ⟨s.f0, s.f1, s.f2, s.f3.set i p, s.f4, s.f5⟩
theorem kernel_with.calls (s : S66) (cs : List Value) (i : Nat) (p : S80) (ct : List Value) (ok : Nat → Prop) (w : World) (h : Kd.FK k66 w ok s cs) (hp : Kd.FK k80 w ok p ct) (hi : i < s.f3.length) (h4 : s.f3.length ≤ 4) :
    Calls Tryz.prog 38 #[.agg cs.toArray, .int .i64 i, .agg ct.toArray] w fun e w' => ∃ cs', e = .returned (.agg cs'.toArray) ∧ Kd.FK k66 w' (nw ok w) (withP s i p) cs' ∧ Below w.heap.size w w' := by
  have hu := Tryz.underlying66
  have hu3 := Tryz.underlying80
  obtain ⟨A1, c1, A2, c2, A3, c3, A4, c4, rfl, l1, g1, l2, g2, l3, g3, l4, g4⟩ := k66_openF h
  have G1 := Aside0.mk (Kd.F_bound g1)
  have G2 := Aside0.mk (Kd.F_bound g2)
  have G3 := Aside0.mk (Kd.F_bound g3)
  have G4 := Aside0.mk (Kd.F_bound g4)
  have HP := Aside0.mk (Kd.FK_bound hp)
  obtain ⟨B0, d0, B1, d1, B2, d2, B3, d3, B4, d4, rfl, m0, -, m1, -, m2, -, m3, -, m4, -⟩ := k80_openF hp
  clear h g1 g2 g3 g4 hp
  have hX0 := blk_al (blk_al (blk_new w (.cells #[.int .i64 s.f0, .slice A1 s.f1.length c1, .slice A2 s.f2.length c2, .slice A3 s.f3.length c3, .slice A4 s.f4.length c4, .int .i64 s.f5] 66)) (.cells #[.slice B0 p.f0.length d0, .slice B1 p.f1.length d1, .slice B2 p.f2.length d2, .slice B3 p.f3.length d3, .slice B4 p.f4.length d4] 80)) (.cells #[.int .i64 0, .slice none 0 0, .slice none 0 0, .slice none 0 0, .slice none 0 0, .int .i64 0] 66)
  have hb := @bl3 w (.cells #[.int .i64 s.f0, .slice A1 s.f1.length c1, .slice A2 s.f2.length c2, .slice A3 s.f3.length c3, .slice A4 s.f4.length c4, .int .i64 s.f5] 66) (.cells #[.slice B0 p.f0.length d0, .slice B1 p.f1.length d1, .slice B2 p.f2.length d2, .slice B3 p.f3.length d3, .slice B4 p.f4.length d4] 80) (.cells #[.int .i64 0, .slice none 0 0, .slice none 0 0, .slice none 0 0, .slice none 0 0, .int .i64 0] 66)
  have z3 : (((w.alloc (.cells #[.int .i64 s.f0, .slice A1 s.f1.length c1, .slice A2 s.f2.length c2, .slice A3 s.f3.length c3, .slice A4 s.f4.length c4, .int .i64 s.f5] 66)).alloc (.cells #[.slice B0 p.f0.length d0, .slice B1 p.f1.length d1, .slice B2 p.f2.length d2, .slice B3 p.f3.length d3, .slice B4 p.f4.length d4] 80)).alloc (.cells #[.int .i64 0, .slice none 0 0, .slice none 0 0, .slice none 0 0, .slice none 0 0, .int .i64 0] 66)).heap.size = w.heap.size + 3 := by rw [alsz, alsz, alsz]
  have hP0 := blk_al (blk_new (w.alloc (.cells #[.int .i64 s.f0, .slice A1 s.f1.length c1, .slice A2 s.f2.length c2, .slice A3 s.f3.length c3, .slice A4 s.f4.length c4, .int .i64 s.f5] 66)) (.cells #[.slice B0 p.f0.length d0, .slice B1 p.f1.length d1, .slice B2 p.f2.length d2, .slice B3 p.f3.length d3, .slice B4 p.f4.length d4] 80)) (.cells #[.int .i64 0, .slice none 0 0, .slice none 0 0, .slice none 0 0, .slice none 0 0, .int .i64 0] 66)
  have hR0 := blk_new ((w.alloc (.cells #[.int .i64 s.f0, .slice A1 s.f1.length c1, .slice A2 s.f2.length c2, .slice A3 s.f3.length c3, .slice A4 s.f4.length c4, .int .i64 s.f5] 66)).alloc (.cells #[.slice B0 p.f0.length d0, .slice B1 p.f1.length d1, .slice B2 p.f2.length d2, .slice B3 p.f3.length d3, .slice B4 p.f4.length d4] 80)) (.cells #[.int .i64 0, .slice none 0 0, .slice none 0 0, .slice none 0 0, .slice none 0 0, .int .i64 0] 66)
  rw [show (w.alloc (.cells #[.int .i64 s.f0, .slice A1 s.f1.length c1, .slice A2 s.f2.length c2, .slice A3 s.f3.length c3, .slice A4 s.f4.length c4, .int .i64 s.f5] 66)).heap.size = w.heap.size + 1 from alsz] at hP0
  rw [show ((w.alloc (.cells #[.int .i64 s.f0, .slice A1 s.f1.length c1, .slice A2 s.f2.length c2, .slice A3 s.f3.length c3, .slice A4 s.f4.length c4, .int .i64 s.f5] 66)).alloc (.cells #[.slice B0 p.f0.length d0, .slice B1 p.f1.length d1, .slice B2 p.f2.length d2, .slice B3 p.f3.length d3, .slice B4 p.f4.length d4] 80)).heap.size = w.heap.size + 2 by rw [alsz, alsz]] at hR0
  have hN0 := N_empty (d := k80) (((w.alloc (.cells #[.int .i64 s.f0, .slice A1 s.f1.length c1, .slice A2 s.f2.length c2, .slice A3 s.f3.length c3, .slice A4 s.f4.length c4, .int .i64 s.f5] 66)).alloc (.cells #[.slice B0 p.f0.length d0, .slice B1 p.f1.length d1, .slice B2 p.f2.length d2, .slice B3 p.f3.length d3, .slice B4 p.f4.length d4] 80)).alloc (.cells #[.int .i64 0, .slice none 0 0, .slice none 0 0, .slice none 0 0, .slice none 0 0, .int .i64 0] 66)) w.heap.size (fun k => (ok k ∧ k < w.heap.size) ∨ w.heap.size + 3 ≤ k) 80 (by rw [z3]; omega) (Or.inr (by rw [z3]; omega))
  rw [z3] at hN0
  go_enter Tryz.func38, Tryz.ntmps38
  go_wp2_with ((with_reducible refine gate_builtin (b := .append) (xs := #[.tmp 7, .tmp 9]) rfl ?_); at_builtin; refine stop_ ?_)
  refine ⟨?_⟩
  refine apNR row80 (w0 := w) hN0 (Kd.F_below G3.out (below_alloc hb _)) (fun k hk => ⟨Or.inl hk, ne_own hN0 hk.2⟩) (fun k hk => Or.inr (by rw [alsz, z3] at hk; omega)) (below_alloc hb _) (by rw [alsz, z3]; omega) (by show 0 + s.f3.length ≤ 100000; omega) (h := fun v5 w5 hN5 hb5 hg5 hat5 => ?_)
  rw [List.nil_append] at hN5
  obtain ⟨g, c5, rfl, hbg, hgl, -⟩ := Kd.N_form hN5 (by omega)
  have hgne : w.heap.size + 3 ≤ g := by
    have := hat5; simp only [Value.ownBlock] at this
    rcases this with h | ⟨b, h1, h2⟩
    · have := Option.some.inj h; omega
    · have := Option.some.inj h1; rw [alsz, z3] at h2; omega
  have hX5 := blk_grown (blk_al hX0 (.cells #[] 80)) hg5 (fun he => by have h2 := Option.some.inj he; (try dsimp only at h2); omega)
  have hP5 := blk_grown (blk_al hP0 (.cells #[] 80)) hg5 (fun he => by have h2 := Option.some.inj he; (try dsimp only at h2); omega)
  have hR5 := blk_grown (blk_al hR0 (.cells #[] 80)) hg5 (fun he => by have h2 := Option.some.inj he; (try dsimp only at h2); omega)
  have HN5 := Aside0.mk hN5
  clear hN5
  go_wp2_with ((with_reducible refine gate_store (t := 63) (p := 11) (v := .tmp 10) rfl ?_); refine stop_ ?_)
  refine ⟨?_⟩
  refine stB (w0 := w) (base := w.heap.size) (seg := [.slice (some ⟨g, 0, none⟩) s.f3.length c5]) (cs' := [.int .i64 s.f0, .slice A1 s.f1.length c1, .slice A2 s.f2.length c2, .slice (some ⟨g, 0, none⟩) s.f3.length c5, .slice A4 s.f4.length c4, .int .i64 s.f5]) hX5 hb5 (Nat.le_refl _) (h := fun w6 hX6 hb6 hg6 => ?_)
  have hN6 := Kd.N_grown HN5.out hg6 (fun k hk he => by have := Option.some.inj he; (try dsimp only at this); omega)
  have hP6 := blk_grown hP5 hg6 (fun he => by have h2 := Option.some.inj he; (try dsimp only at h2); omega)
  have hR6 := blk_grown hR5 hg6 (fun he => by have h2 := Option.some.inj he; (try dsimp only at h2); omega)
  obtain ⟨x0, x1, x2, x3, x4, x5⟩ := bx6 hX6
  obtain ⟨y0, y1, y2, y3, y4⟩ := bx5 hP6
  have HN6 := Aside0.mk hN6
  clear hN6
  go_wp2_with ((with_reducible refine gate_store (t := 80) (p := 16) (v := .tmp 15) rfl ?_); refine stop_ ?_)
  refine ⟨?_⟩
  refine stNW (d := k80) (w0 := w) (i := i) (seg := [.slice B0 p.f0.length d0, .slice B1 p.f1.length d1, .slice B2 p.f2.length d2, .slice B3 p.f3.length d3, .slice B4 p.f4.length d4]) HN6.out hi (Kd.FK_below HP.out hb6) (fun k hk => ⟨Or.inl hk, by have := hk.2; omega⟩) hb6 z80 (h := fun w7 hN7 hb7 hg7 => ?_)
  have hX7 := blk_grown hX6 hg7 (fun he => by have h2 := Option.some.inj he; (try dsimp only at h2); omega)
  have hR7 := blk_grown hR6 hg7 (fun he => by have h2 := Option.some.inj he; (try dsimp only at h2); omega)
  have HN7 := Aside0.mk hN7
  clear hN7 x0 x1 x2 x3 x4 x5 y0 y1 y2 y3 y4
  obtain ⟨x0, x1, x2, x3, x4, x5⟩ := bx6 hX7
  go_wp2_with ((with_reducible refine gate_store (t := 66) (p := 6) (v := .tmp 17) rfl ?_); refine stop_ ?_)
  refine ⟨?_⟩
  refine stB (w0 := w) (base := w.heap.size) (seg := [.int .i64 s.f0, .slice A1 s.f1.length c1, .slice A2 s.f2.length c2, .slice (some ⟨g, 0, none⟩) s.f3.length c5, .slice A4 s.f4.length c4, .int .i64 s.f5]) (cs' := [.int .i64 s.f0, .slice A1 s.f1.length c1, .slice A2 s.f2.length c2, .slice (some ⟨g, 0, none⟩) s.f3.length c5, .slice A4 s.f4.length c4, .int .i64 s.f5]) hR7 hb7 (by omega) (h := fun w8 hR8 hb8 hg8 => ?_)
  have HN8 := Aside0.mk (Kd.N_grown HN7.out hg8 (fun k hk he => by have := Option.some.inj he; (try dsimp only at this); omega))
  obtain ⟨v0, v1, v2, v3, v4, v5⟩ := bx6 hR8
  go_wp2
  refine bodyPost_ret (results_single (r := .cell 6 66) rfl (.cell _ 66 _ (0, 0) _ rfl hR8 Tryz.underlying66 rfl (by kernel_rfl) .nil)) rfl ?_
  have hl : (s.f3.set i p).length = s.f3.length := List.length_set
  have F3 : Kd.F k80 w8 (nw ok w) (some ⟨g, 0, none⟩) s.f3.length (s.f3.set i p) := Kd.F_mono (Kd.N_F HN8.out) (fun k hk => hk.elim (fun h => Or.inl h.1) (fun h => Or.inr (by omega)))
  rw [← hl] at F3
  have K := k66_mkF w8 (nw ok w) (withP s i p) l1 (Kd.F_mono (Kd.F_below G1.out hb8) (fun k hk => Or.inl hk.1)) l2 (Kd.F_mono (Kd.F_below G2.out hb8) (fun k hk => Or.inl hk.1)) (show (withP s i p).f3.length ≤ c5 from by show (s.f3.set i p).length ≤ c5; rw [hl]; exact (Kd.N_reads' HN8.out).2.1) F3 l4 (Kd.F_mono (Kd.F_below G4.out hb8) (fun k hk => Or.inl hk.1))
  rw [show (withP s i p).f3.length = s.f3.length from hl] at K
  exact ⟨_, rfl, K, hb8⟩
end Go.Proofs.YtmngaagojkihbaaGreat.FTop
