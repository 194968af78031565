/- Contracts of functions that the statement TopAlone reaches, and plain lemmas. No condition. -/
import Derived.Test.YtmngaagojkihbaaGreatZ11
namespace Go.Proofs.YtmngaagojkihbaaGreat.FTop
open Go.RowKit Go.Proofs.YtmngaagojkihbaaGreatW.PrintWords Go.Proofs.YtmngaagojkihbaaGreatW.PrintLast Go.Proofs.YtmngaagojkihbaaGreatW.PrintMore
attribute [local go_sem] max2_int min2_int max_two min_two
set_option linter.unusedVariables false
set_option linter.unusedSimpArgs false
set_option maxHeartbeats 8000000
set_option maxRecDepth 100000
def verdict_Fits.T8 : Bool × List (List Nat × List Nat) := (true, [([], []), ([], []), ([], []), ([2], [2]), ([1, 3], [1, 3]), ([], []), ([5], [5]), ([4, 6], [4, 6]), ([0, 7], [0, 7]), ([8, 0, 1, 2, 3, 4, 5, 6, 7, 8], [0, 8])])
def verdict_Fits.B8 : List Nat := [0, 0, 0, 4, 14, 0, 32, 126, 255, 511]
theorem verdict_Fits.tab8 : rtab .any (opsOf Tryz.f91 8) = verdict_Fits.T8 := by kernel_rfl
theorem verdict_Fits.bits8 : waitsOk verdict_Fits.T8.2 verdict_Fits.B8 = true := by kernel_rfl
def verdict_Fits.T10 : Bool × List (List Nat × List Nat) := (true, [([], []), ([], []), ([], []), ([2], [2]), ([1, 3], [1, 3]), ([], []), ([5], [5]), ([4, 6], [4, 6]), ([0, 7], [0, 7])])
def verdict_Fits.B10 : List Nat := [0, 0, 0, 4, 14, 0, 32, 126, 255]
theorem verdict_Fits.tab10 : rtab .any (opsOf Tryz.f91 10) = verdict_Fits.T10 := by kernel_rfl
theorem verdict_Fits.bits10 : waitsOk verdict_Fits.T10.2 verdict_Fits.B10 = true := by kernel_rfl
def askI (cy : Int) (l : List S44) : Int := l.foldl (fun s x => s + cy / x.f2 * x.f0) 0
def fitsI (l : List S44) (f : S85) : Bool × Int :=
  match cycI l f with
  | none => (false, 5)
  | some p => if p.1 / f.f0 * f.f1 < askI p.1 l then (false, 0) else (!failsB l f p.2, 0)
theorem ask1_bd {cy : Int} {x : S44} (hx : taskR x = true) (h1 : 1 ≤ cy) (h2 : cy ≤ 3000) : 0 ≤ cy / x.f2 ∧ cy / x.f2 ≤ 3000 ∧ 0 ≤ cy / x.f2 * x.f0 ∧ cy / x.f2 * x.f0 ≤ 600000 := by
  have h3 := taskR_own hx
  have h4 := Int.ediv_nonneg (show 0 ≤ cy by omega) (show 0 ≤ x.f2 by omega)
  have h5 := Int.ediv_le_self x.f2 (show 0 ≤ cy by omega)
  have h6 := Int.mul_le_mul (show cy / x.f2 ≤ 3000 by omega) (show x.f0 ≤ 200 by omega) (by omega) (by omega)
  have h7 := Int.mul_nonneg h4 (show 0 ≤ x.f0 by omega)
  omega
theorem askI_snoc (cy : Int) (l : List S44) (i : Nat) (hi : i < l.length) : askI cy (l.take (i + 1)) = askI cy (l.take i) + cy / l[i].f2 * l[i].f0 := by unfold askI; rw [foldl_snoc _ _ _ _ hi]
theorem verdict_Fits.calls (A : Option Addr) (c : Nat) (l : List S44) (f : S85) (w : World) (h : Kd.C k44 w A l.length l) (hT : taskA l = true) (hf : supR f = true) : Ret 91 #[.slice A l.length c, vF f] w (.tuple #[.bool (fitsI l f).1, .int .i64 (fitsI l f).2]) := by
  have hu := Tryz.underlying44
  have hu2 := Tryz.underlying85
  have hfb := supR_iff.1 hf
  have hl8 : l.length ≤ 8 := by have := hT; unfold taskA at this; rw [Bool.and_eq_true] at this; exact of_decide_eq_true this.2
  have hb := @bl1 w (.cells #[.int .i64 f.f0, .int .i64 f.f1] 85)
  have H := Aside0.mk h
  have HT1 := Aside0.mk hT
  have HF1 := Aside0.mk hf
  clear h
  cases hc : cycI l f with
  | none =>
    have hv := Aside0.mk (show fitsI l f = (false, 5) by unfold fitsI; rw [hc])
    have HC := Aside0.mk (show cycV (cycI l f) = .tuple #[.int .i64 0, .int .i64 0, .int .i64 5] by rw [hc]; rfl)
    clear hT hf hc
    go_enter Tryz.func91, Tryz.ntmps91
    go_wp2_with fail
    refine (verdict_Cycle.calls A c l f _ (C_alloc H.out _) HT1.out HF1.out).mono ?_; rintro e w2 ⟨rfl, hb2⟩
    rw [HC.out]
    go_wp2
    go_ret2
    exact ⟨by rw [hv.out]; rfl, below_step hb hb2⟩
  | some p =>
    obtain ⟨cy, en⟩ := p
    have hcb := cycI_bd hT hf hc
    have hcp := Aside0.mk hc
    have HC := Aside0.mk (show cycV (cycI l f) = .tuple #[.int .i64 cy, .int .i64 en, .int .i64 0] by rw [hc]; rfl)
    have hv0 := Aside0.mk (show fitsI l f = if cy / f.f0 * f.f1 < askI cy l then (false, 0) else (!failsB l f en, 0) by unfold fitsI; rw [hc])
    clear hT hf hc
    dsimp only at hcb
    go_enter Tryz.func91, Tryz.ntmps91
    go_wp2_with fail
    refine (verdict_Cycle.calls A c l f _ (C_alloc H.out _) HT1.out HF1.out).mono ?_; rintro e w2 ⟨rfl, hb2⟩
    rw [HC.out]
    have hB := blk_below (blk_new w (.cells #[.int .i64 f.f0, .int .i64 f.f1] 85)) hb2
    have hbA := below_step hb hb2
    clear hb hb2
    go_wp2
    go_loopg [9, 27] l.length (fun k v9 v27 wr => ∃ i : Nat, i + k = l.length ∧ v27 = .int .i64 i ∧ v9 = .int .i64 (askI cy (l.take i)) ∧ 0 ≤ askI cy (l.take i) ∧ askI cy (l.take i) ≤ (i : Int) * 600000 ∧ wr.heap[w.heap.size]? = some (.cells #[.int .i64 f.f0, .int .i64 f.f1] 85 (0, 0)) ∧ Below w.heap.size w wr)
    case atStart => exact ⟨0, by omega, by go_num, rfl, Int.le_refl _, by simp [askI], hB, hbA⟩
    case round =>
      clear hB hbA
      obtain ⟨i, hi, rfl, rfl, ha0, ha1, hB, hbr⟩ := hrel
      by_cases ci : i < l.length
      · obtain ⟨ad, A3, c3, x, rfl, hx, e0, e1, e2, e3, hlc, hC⟩ := el44 (Kd.C_below H.out hbr) i ci
        have hxr : taskR x = true := by rw [← hx.out]; exact taskA_task HT1.out ci
        have hxo := taskR_own hxr
        have hab := ask1_bd hxr hcb.1 (show cy ≤ 3000 by omega)
        have hsn := Aside0.mk (askI_snoc cy l i ci)
        rw [hx.out] at hsn
        have hB1 := blk_al hB (.cells #[.int .i64 x.f0, .int .i64 x.f1, .int .i64 x.f2, .slice A3 x.f3.length c3] 44)
        have hb1 := below_alloc hbr (.cells #[.int .i64 x.f0, .int .i64 x.f1, .int .i64 x.f2, .slice A3 x.f3.length c3] 44)
        obtain ⟨z0, z1, z2, z3⟩ := bx4 (blk_new wr (.cells #[.int .i64 x.f0, .int .i64 x.f1, .int .i64 x.f2, .slice A3 x.f3.length c3] 44))
        clear hC
        generalize askI cy (l.take i) = s at hsn ha0 ha1 ⊢
        generalize hq : cy / x.f2 = q at hab hsn
        have HQ := Aside0.mk hq
        clear hq
        have HW1 := Aside0.mk (show wrap64 (q * x.f0) = q * x.f0 from w64 (by omega) (by omega))
        have HW2 := Aside0.mk (show wrap64 (s + q * x.f0) = s + q * x.f0 from w64 (by omega) (by omega))
        go_wp2
        refine st_ 10 (fun w' => Below w.heap.size w w' ∧ w'.cell? (⟨wr.heap.size, 2, none⟩) = some (.int .i64 x.f2) ∧ w'.cell? (⟨wr.heap.size, 0, none⟩) = some (.int .i64 x.f0)) [] verdict_Fits.tab8 verdict_Fits.bits8 ⟨below_drew1 hb1, z2, z0⟩ (h := fun HT HW hHeld => ?_)
        repeat (first | refine pn_ HT (h := ?_) | refine tn_ HT HW hHeld (h := ?_) | refine zn_ HT (h := ?_))
        refine pn_ HT (v := .int .i64 q) (hy := by (refine Or.inl ⟨by rfl, ?_⟩; intro w'; go_simp; rw [if_neg (show ¬ x.f2 = 0 by omega), Go.IntWalk.i64_quo _ _ ⟨by omega, by omega, by omega⟩, HQ.out])) (h := ?_)
        have hw1 := HW1.out
        have hw2 := HW2.out
        repeat (first | refine pn_ HT (h := ?_) | refine tn_ HT HW hHeld (h := ?_) | refine zn_ HT (h := ?_))
        clear hw1 hw2
        refine dn_ HT (h := ?_)
        have hb2 := below_drew hb1
        have hB2 := blk_drew hB1
        go_wp2
        go_roundg (l.length - i - 1)
        case measure => omega
        case rel => exact ⟨i + 1, by omega, by go_num, by rw [hsn.out], by rw [hsn.out]; omega, by rw [hsn.out]; omega, hB2, hb2⟩
      · have : i = l.length := by omega
        subst this
        rw [List.take_length] at ha0 ha1 ⊢
        have hqa := Int.ediv_nonneg (show 0 ≤ cy by omega) (show 0 ≤ f.f0 by omega)
        have hqb := Int.ediv_le_self f.f0 (show 0 ≤ cy by omega)
        have hqc := Int.mul_le_mul (show cy / f.f0 ≤ 3000 by omega) (show f.f1 ≤ 200 by omega) (by omega) (by omega)
        have hqd := Int.mul_nonneg hqa (show 0 ≤ f.f1 by omega)
        generalize hq : cy / f.f0 = q at hqa hqb hqc hqd
        have HQ := Aside0.mk hq
        have hv1 := Aside0.mk (show fitsI l f = if q * f.f1 < askI cy l then (false, 0) else (!failsB l f en, 0) by rw [hv0.out, hq])
        clear hq
        have HW1 := Aside0.mk (show wrap64 (q * f.f1) = q * f.f1 from w64 (by omega) (by omega))
        generalize askI cy l = s at hv1 ha0 ha1 ⊢
        obtain ⟨x0, x1⟩ := bx2 hB
        go_wp2
        refine st_ 9 (fun w' => Below w.heap.size w w' ∧ w'.cell? (⟨w.heap.size, 0, none⟩) = some (.int .i64 f.f0) ∧ w'.cell? (⟨w.heap.size, 1, none⟩) = some (.int .i64 f.f1)) [] verdict_Fits.tab10 verdict_Fits.bits10 ⟨below_drew1 hbr, x0, x1⟩ (h := fun HT HW hHeld => ?_)
        repeat (first | refine pn_ HT (h := ?_) | refine tn_ HT HW hHeld (h := ?_) | refine zn_ HT (h := ?_))
        refine pn_ HT (v := .int .i64 q) (hy := by (refine Or.inl ⟨by rfl, ?_⟩; intro w'; go_simp; rw [if_neg (show ¬ f.f0 = 0 by omega), Go.IntWalk.i64_quo _ _ ⟨by omega, by omega, by omega⟩, HQ.out])) (h := ?_)
        have hw1 := HW1.out
        repeat (first | refine pn_ HT (h := ?_) | refine tn_ HT HW hHeld (h := ?_) | refine zn_ HT (h := ?_))
        clear hw1
        refine dn_ HT (h := ?_)
        have hb2 := below_drew hbr
        have hB2 := blk_drew hB
        clear x0 x1 hB hbr HT HW hHeld
        generalize wr.drew = w5 at hb2 hB2 ⊢
        obtain ⟨x0, x1⟩ := bx2 hB2
        by_cases cs : q * f.f1 < s
        · have hv := Aside0.mk (hv1.out.trans (if_pos cs))
          go_wp2
          go_ret2
          exact ⟨by rw [hv.out]; rfl, hb2⟩
        · have hv := Aside0.mk (hv1.out.trans (if_neg cs))
          go_wp2_with fail
          refine (verdict_First.calls A c l f (cy, en) w5 (Kd.C_below H.out hb2) HT1.out HF1.out hcp.out).mono ?_; rintro e w6 ⟨⟨t, rfl⟩, hb6⟩
          dsimp only
          generalize failsB l f en = bb at hv ⊢
          go_wp2
          go_ret2
          exact ⟨by rw [hv.out]; rfl, below_step hb2 hb6⟩
def Asks (w : World) (fv : Value) (e : Int) : Prop := ∃ (fn : Nat) (caps : Array Value), fv = .func (.func fn) #[] caps ∧ (∀ args w, (callFunc fn args).run Tryz.prog w = .ok (.enter fn args) w) ∧ ∀ W, Below w.heap.size w W → Ret fn caps W (.int .i64 e)
theorem Asks_below {w w' : World} {fv : Value} {e : Int} (h : Asks w fv e) (hb : Below w.heap.size w w') : Asks w' fv e := by
  obtain ⟨fn, caps, hf, hn, hc⟩ := h
  exact ⟨fn, caps, hf, hn, fun W hW => hc W (Below.trans hb (Below.mono hW hb.size))⟩
def unE (ok : Bool) (e : Int) : Int := if ok then 0 else e
def fitE (l : List S44) (f : S85) : Int := if (fitsI l f).2 = 0 ∧ (fitsI l f).1 = false then 7 else (fitsI l f).2
def firstE : List Int → Int
  | [] => 0
  | e :: es => if e = 0 then firstE es else e
theorem un1.calls (ok : Bool) (e : Int) (g1 g2 : Nat) (w : World) (h1 : w.heap[g1]? = some (.cells #[.bool ok] 4 (0, 0))) (h2 : w.heap[g2]? = some (.cells #[.int .i64 e] 27 (0, 0))) :
    Ret 89 #[.pointer (some ⟨g1, 0, none⟩), .pointer (some ⟨g2, 0, none⟩)] w (.int .i64 (unE ok e)) := by
  have x1 := bx1 h1
  have x2 := bx1 h2
  go_enter Tryz.func89, Tryz.ntmps89
  cases ok <;> go_wp2 <;> go_ret <;> exact ⟨rfl, bl0⟩
theorem admit_unless.calls (ok : Bool) (e : Int) (w : World) : Calls Tryz.prog 50 #[.bool ok, .int .i64 e] w fun r w' => ∃ fv, r = .returned fv ∧ Asks w' fv (unE ok e) ∧ Below w.heap.size w w' := by
  have h1 := blk_al (blk_new w (.cells #[.bool ok] 4)) (.cells #[.int .i64 e] 27)
  have h2 := blk_new (w.alloc (.cells #[.bool ok] 4)) (.cells #[.int .i64 e] 27)
  rw [alsz] at h2
  go_enter Tryz.func50, Tryz.ntmps50
  go_wp2
  go_ret
  exact ⟨_, rfl, ⟨89, _, rfl, enters_of Tryz.func89 (by kernel_rfl) rfl, fun W hW => un1.calls ok e _ _ W (blk_below h1 hW) (blk_below h2 hW)⟩, bl2⟩
theorem fit1.calls (A : Option Addr) (c : Nat) (l : List S44) (f : S85) (g1 g2 : Nat) (w : World) (h : Kd.C k44 w A l.length l) (hT : taskA l = true) (hf : supR f = true) (h1 : w.heap[g1]? = some (.cells #[.slice A l.length c] 76 (0, 0))) (h2 : w.heap[g2]? = some (.cells #[.int .i64 f.f0, .int .i64 f.f1] 85 (0, 0))) :
    Ret 90 #[.pointer (some ⟨g1, 0, none⟩), .pointer (some ⟨g2, 0, none⟩)] w (.int .i64 (fitE l f)) := by
  have hu := Tryz.underlying85
  have x1 := bx1 h1
  obtain ⟨y0, y1⟩ := bx2 h2
  have H := Aside0.mk h
  have HT1 := Aside0.mk hT
  have HF1 := Aside0.mk hf
  clear h hT hf
  go_enter Tryz.func90, Tryz.ntmps90
  go_wp2_with fail
  refine (verdict_Fits.calls A c l f w H.out HT1.out HF1.out).mono ?_; rintro e w2 ⟨rfl, hb2⟩
  have hv := Aside0.mk (show fitE l f = if (fitsI l f).2 = 0 ∧ (fitsI l f).1 = false then 7 else (fitsI l f).2 from rfl)
  generalize fitsI l f = r at hv ⊢
  obtain ⟨ok, e⟩ := r
  dsimp only at hv ⊢
  by_cases ce : e = 0
  · subst ce
    cases ok
    · have hv2 := Aside0.mk (hv.out.trans (if_pos ⟨rfl, rfl⟩))
      go_wp2
      go_ret
      exact ⟨by rw [hv2.out]; rfl, hb2⟩
    · have hv2 := Aside0.mk (hv.out.trans (if_neg (by simp)))
      go_wp2
      go_ret
      exact ⟨by rw [hv2.out]; rfl, hb2⟩
  · have hv2 := Aside0.mk (hv.out.trans (if_neg (fun h => ce h.1)))
    have ce2 : (e == 0) = false := by simpa using ce
    clear ce
    go_wp2
    go_ret
    exact ⟨by rw [hv2.out]; rfl, hb2⟩
theorem admit_fit.calls (A : Option Addr) (c : Nat) (l : List S44) (f : S85) (w : World) (h : Kd.C k44 w A l.length l) : Calls Tryz.prog 51 #[.slice A l.length c, vF f] w fun r w' => ∃ cp, r = .returned (.func (.func 90) #[] cp) ∧ (taskA l = true → supR f = true → Asks w' (.func (.func 90) #[] cp) (fitE l f)) ∧ Below w.heap.size w w' := by
  have hu := Tryz.underlying85
  have H := Aside0.mk h
  have h1 := blk_al (blk_new w (.cells #[.slice A l.length c] 76)) (.cells #[.int .i64 f.f0, .int .i64 f.f1] 85)
  have h2 := blk_new (w.alloc (.cells #[.slice A l.length c] 76)) (.cells #[.int .i64 f.f0, .int .i64 f.f1] 85)
  rw [alsz] at h2
  clear h
  go_enter Tryz.func51, Tryz.ntmps51
  go_wp2
  go_ret
  exact ⟨_, rfl, fun hT hf => ⟨90, _, rfl, enters_of Tryz.func90 (by kernel_rfl) rfl, fun W hW => fit1.calls A c l f _ _ W (Kd.C_below (Kd.C_below H.out bl2) hW) hT hf (blk_below h1 hW) (blk_below h2 hW)⟩, bl2⟩
theorem firstE_at (es : List Int) (i : Nat) (hi : i < es.length) (h : ∀ j, j < i → es.getD j 0 = 0) (he : es.getD i 0 ≠ 0) : firstE es = es.getD i 0 := by
  induction es generalizing i with
  | nil => simp at hi
  | cons a es ih =>
    cases i with
    | zero => show (if a = 0 then firstE es else a) = a; rw [if_neg (show ¬ a = 0 from he)]
    | succ i =>
      have h0 : a = 0 := h 0 (by omega)
      show (if a = 0 then firstE es else a) = es.getD i 0
      rw [if_pos h0]
      exact ih i (by simpa using hi) (fun j hj => h (j + 1) (by omega)) he
theorem firstE_none (es : List Int) (h : ∀ j, j < es.length → es.getD j 0 = 0) : firstE es = 0 := by
  induction es with
  | nil => rfl
  | cons a es ih =>
    show (if a = 0 then firstE es else a) = 0
    rw [if_pos (show a = 0 from h 0 (by simp))]
    exact ih (fun j hj => h (j + 1) (by simpa using hj))
theorem admit_first.calls (fs : List Value) (es : List Int) (g : Nat) (w : World) (hlen : es.length = fs.length) (hl9 : fs.length ≤ 100) (hB : w.heap[g]? = some (.cells fs.toArray 125 (0, 0))) (hA : ∀ i (hi : i < fs.length), (∀ j, j < i → es.getD j 0 = 0) → Asks w fs[i] (es.getD i 0)) :
    Ret 49 #[.slice (some ⟨g, 0, none⟩) fs.length fs.length] w (.int .i64 (firstE es)) := by
  have HA := Aside0.mk hA
  have HL := Aside0.mk hlen
  have HB := Aside0.mk hB
  clear hA hlen hB
  go_enter Tryz.func49, Tryz.ntmps49
  go_wp2
  go_loopg [8] fs.length (fun k v8 wr => ∃ i : Nat, i + k = fs.length ∧ v8 = .int .i64 i ∧ Aside0 (∀ j, j < i → es.getD j 0 = 0) ∧ Below w.heap.size w wr)
  case atStart => exact ⟨0, by omega, rfl, ⟨fun j hj => by omega⟩, bl0⟩
  case round =>
    obtain ⟨i, hi, rfl, hz, hbr⟩ := hrel
    by_cases ci : i < fs.length
    · obtain ⟨fn, caps, hf, hent, hcl⟩ := HA.out i ci hz.out
      have x0 : wr.cell? ⟨g, i, none⟩ = some (.func (.func fn) #[] caps) := by
        rw [blk_cell (blk_below HB.out hbr), List.getElem?_toArray, List.getElem?_eq_getElem ci, hf]
      have hc := Aside0.mk (hcl wr hbr)
      have hen := fun w => hent caps w
      clear hf hcl hent
      go_wp2_with fail
      refine hc.out.mono ?_; rintro e w2 ⟨rfl, hb2⟩
      have hb3 := below_step hbr hb2
      generalize he : es.getD i 0 = e
      have HE := Aside0.mk he
      clear he
      by_cases ce : e = 0
      · have hz2 := Aside0.mk (show ∀ j, j < i + 1 → es.getD j 0 = 0 from fun j hj => by
          by_cases h : j < i
          · exact hz.out j h
          · rw [show j = i by omega, HE.out, ce])
        subst ce
        go_wp2
        go_roundg (fs.length - i - 1)
        case measure => omega
        case rel => exact ⟨i + 1, by omega, by go_num, hz2, hb3⟩
      · have hv := Aside0.mk (show firstE es = e by rw [← HE.out]; exact firstE_at es i (by rw [HL.out]; exact ci) hz.out (by rw [HE.out]; exact ce))
        have ce2 : (e == 0) = false := by simpa using ce
        clear ce
        go_wp2
        go_ret
        exact ⟨by rw [hv.out]; rfl, hb3⟩
    · have hv := Aside0.mk (show firstE es = 0 from firstE_none es (fun j hj => hz.out j (by have := HL.out; omega)))
      go_wp2
      go_ret
      exact ⟨by rw [hv.out]; rfl, hbr⟩
theorem admit_Drop.calls (s : S80) (cs : List Value) (ok : Nat → Prop) (i : Int) (w : World) (h : Kd.FK k80 w ok s cs) (hR : partR s = true) :
    Calls Tryz.prog 64 #[.agg cs.toArray, .int .i64 i] w fun e w' => ∃ cs', e = .returned (.tuple #[.agg cs'.toArray, .int .i64 (leaveP s i).2]) ∧ Kd.FK k80 w' (nw ok w) (leaveP s i).1 cs' ∧ Below w.heap.size w w' := by
  have hu := Tryz.underlying80
  have HR := Aside0.mk hR
  have H := Aside0.mk (Kd.FK_bound h)
  obtain ⟨A0, c0, A1, c1, A2, c2, A3, c3, A4, c4, rfl, -, -, -, -, -, -, -, -, -, -⟩ := k80_openF h
  clear h hR
  have hRB := blk_new (w.alloc (.cells #[.slice A0 s.f0.length c0, .slice A1 s.f1.length c1, .slice A2 s.f2.length c2, .slice A3 s.f3.length c3, .slice A4 s.f4.length c4] 80)) (.cells #[.slice none 0 0, .slice none 0 0, .slice none 0 0, .slice none 0 0, .slice none 0 0] 80)
  rw [alsz] at hRB
  go_enter Tryz.func64, Tryz.ntmps64
  go_wp2_with fail
  refine (part_Leave.calls s [.slice A0 s.f0.length c0, .slice A1 s.f1.length c1, .slice A2 s.f2.length c2, .slice A3 s.f3.length c3, .slice A4 s.f4.length c4] _ i _ (Kd.FK_below H.out bl2) HR.out).mono ?_; rintro e w2 ⟨cs', rfl, hF, hb2⟩
  have hR2 := blk_below hRB hb2
  have hbA := below_step bl2 hb2
  have HF := Aside0.mk hF
  obtain ⟨B0, d0, B1, d1, B2, d2, B3, d3, B4, d4, rfl, -, -, -, -, -, -, -, -, -, -⟩ := k80_openF hF
  have hv := Aside0.mk (Eq.refl (leaveP s i))
  clear hF
  go_wp2_with ((with_reducible refine gate_store (t := 80) (p := 4) (v := .tmp 9) rfl ?_); refine stB (w0 := w) (base := w.heap.size) (seg := [.slice B0 (leaveP s i).1.f0.length d0, .slice B1 (leaveP s i).1.f1.length d1, .slice B2 (leaveP s i).1.f2.length d2, .slice B3 (leaveP s i).1.f3.length d3, .slice B4 (leaveP s i).1.f4.length d4]) (cs' := [.slice B0 (leaveP s i).1.f0.length d0, .slice B1 (leaveP s i).1.f1.length d1, .slice B2 (leaveP s i).1.f2.length d2, .slice B3 (leaveP s i).1.f3.length d3, .slice B4 (leaveP s i).1.f4.length d4]) hR2 hbA (by omega) (h := fun wy hBy hby hgy => ?_))
  (try simp only [Exit.inBlock, Exit.then])
  refine bodyPost_ret (results_list (rs := [.cell 4 80, .tmp 5]) rfl (by simp) (.cell _ 80 _ (0, 0) _ rfl hBy Tryz.underlying80 rfl (by kernel_rfl) (.tmp .nil))) rfl ?_
  refine ⟨_, rfl, ?_, hby⟩
  have hz2 : ((w.alloc (.cells #[.slice A0 s.f0.length c0, .slice A1 s.f1.length c1, .slice A2 s.f2.length c2, .slice A3 s.f3.length c3, .slice A4 s.f4.length c4] 80)).alloc (.cells #[.slice none 0 0, .slice none 0 0, .slice none 0 0, .slice none 0 0, .slice none 0 0] 80)).heap.size = w.heap.size + 2 := by rw [alsz, alsz]
  exact Kd.FK_mono (Kd.FK_grown HF.out hgy (fun k hk he => by have h1 := Option.some.inj he; rcases hk with h | h; (have := h.2; omega); (rw [hz2] at h; omega))) (fun k hk => hk.elim (fun h => Or.inl h.1) (fun h => Or.inr (by rw [hz2] at h; omega)))
def admit_Boot.T1 : Bool × List (List Nat × List Nat) := (true, [([], []), ([0], [0]), ([1], [1]), ([2, 2], [2]), ([3], [3]), ([4, 3], [3, 4]), ([5, 3, 3], [3, 5]), ([3, 6], [3, 6]), ([7, 6], [7]), ([], []), ([9], [9]), ([], []), ([11], [11]), ([10, 12, 8], [10, 12]), ([8, 13], [8, 13]), ([14, 13], [14]), ([15, 15, 0, 1, 2, 3, 4, 5, 6, 7, 8, 9, 10, 11, 12, 13, 14, 15], [15])])
def admit_Boot.B1 : List Nat := [0, 1, 3, 7, 15, 31, 63, 127, 255, 0, 512, 0, 2048, 8191, 16383, 32767, 65535]
theorem admit_Boot.tab1 : rtab .any (opsOf Tryz.f31 1) = admit_Boot.T1 := by kernel_rfl
theorem admit_Boot.bits1 : waitsOk admit_Boot.T1.2 admit_Boot.B1 = true := by kernel_rfl
def bootP (p : S87) : S80 × Int := if fitE p.f1 p.f0 = 0 then (newP p.f1, 0) else (s0, fitE p.f1 p.f0)
theorem admit_Boot.calls (p : S87) (cs : List Value) (ok : Nat → Prop) (w : World) (h : Kd.FK k87 w ok p cs) (hf : supR p.f0 = true) (hT : taskA p.f1 = true) :
    Calls Tryz.prog 31 #[.agg cs.toArray] w fun e w' => ∃ cs', e = .returned (.tuple #[.agg cs'.toArray, .int .i64 (bootP p).2]) ∧ Kd.FK k80 w' (nw ok w) (bootP p).1 cs' ∧ Below w.heap.size w w' := by
  have hu := Tryz.underlying87
  have hu2 := Tryz.underlying80
  have hu3 := Tryz.underlying85
  obtain ⟨A2, c2, rfl, l2, g2⟩ := k87_openF h
  have G2 := Aside0.mk (Kd.F_bound g2)
  have hsR : ∀ W, Ret 45 #[vF p.f0] W (.bool true) := fun W => by have := supply_Right.calls p.f0 W; rwa [hf] at this
  have htA : ∀ W, Below w.heap.size w W → Ret 46 #[.slice A2 p.f1.length c2] W (.bool true) := fun W hW => by have := task_All.calls A2 c2 p.f1 W (Kd.F_now (Kd.F_below g2 hW)); rwa [hT] at this
  have HT1 := Aside0.mk hT
  have HF1 := Aside0.mk hf
  have hvb := Aside0.mk (Eq.refl (bootP p))
  clear h hT hf g2
  have hz1 : (w.alloc (.cells #[.int .i64 p.f0.f0, .int .i64 p.f0.f1, .slice A2 p.f1.length c2] 87)).heap.size = w.heap.size + 1 := alsz
  have hB0 := blk_al (blk_new w (.cells #[.int .i64 p.f0.f0, .int .i64 p.f0.f1, .slice A2 p.f1.length c2] 87)) (.cells #[.slice none 0 0, .slice none 0 0, .slice none 0 0, .slice none 0 0, .slice none 0 0] 80)
  have hRB := blk_new (w.alloc (.cells #[.int .i64 p.f0.f0, .int .i64 p.f0.f1, .slice A2 p.f1.length c2] 87)) (.cells #[.slice none 0 0, .slice none 0 0, .slice none 0 0, .slice none 0 0, .slice none 0 0] 80)
  rw [hz1] at hRB
  have hz2 : ((w.alloc (.cells #[.int .i64 p.f0.f0, .int .i64 p.f0.f1, .slice A2 p.f1.length c2] 87)).alloc (.cells #[.slice none 0 0, .slice none 0 0, .slice none 0 0, .slice none 0 0, .slice none 0 0] 80)).heap.size = w.heap.size + 2 := by rw [alsz, hz1]
  have hb := @bl2 w (.cells #[.int .i64 p.f0.f0, .int .i64 p.f0.f1, .slice A2 p.f1.length c2] 87) (.cells #[.slice none 0 0, .slice none 0 0, .slice none 0 0, .slice none 0 0, .slice none 0 0] 80)
  obtain ⟨x0, x1, x2⟩ := bx3 hB0
  go_enter Tryz.func31, Tryz.ntmps31
  go_wp2
  generalize (w.alloc (.cells #[.int .i64 p.f0.f0, .int .i64 p.f0.f1, .slice A2 p.f1.length c2] 87)).alloc (.cells #[.slice none 0 0, .slice none 0 0, .slice none 0 0, .slice none 0 0, .slice none 0 0] 80) = wa at hB0 hRB hz2 hb x0 x1 x2 ⊢
  refine st_ 17 (fun w' => Below wa.heap.size wa w' ∧ w'.cell? (⟨w.heap.size, 0, none⟩) = some (.int .i64 p.f0.f0) ∧ w'.cell? (⟨w.heap.size, 1, none⟩) = some (.int .i64 p.f0.f1) ∧ w'.cell? (⟨w.heap.size, 2, none⟩) = some (.slice A2 p.f1.length c2)) [15] admit_Boot.tab1 admit_Boot.bits1 ⟨below_drew1 bl0, x0, x1, x2⟩ (h := fun HT HW hHeld => ?_)
  repeat (first | refine pn_ HT (h := ?_) | refine tn_ HT HW hHeld (h := ?_) | refine zn_ HT (h := ?_))
  refine oc_ HT ((hsR _)) (hS := fun w3 hb3 => ⟨below_step (hHeld.1) hb3, be_cell hb3 (hHeld.2.1), be_cell hb3 (hHeld.2.2.1), be_cell hb3 (hHeld.2.2.2)⟩) (h := fun w3 hb3 hHeld => ?_)
  repeat (first | refine pn_ HT (h := ?_) | refine tn_ HT HW hHeld (h := ?_) | refine zn_ HT (h := ?_))
  refine oc_ HT ((htA _ (Below.trans hb (Below.mono (hHeld.1) (by omega))))) (hS := fun w3 hb3 => ⟨below_step (hHeld.1) hb3, be_cell hb3 (hHeld.2.1), be_cell hb3 (hHeld.2.2.1), be_cell hb3 (hHeld.2.2.2)⟩) (h := fun w3 hb3 hHeld => ?_)
  repeat (first | refine pn_ HT (h := ?_) | refine tn_ HT HW hHeld (h := ?_) | refine zn_ HT (h := ?_))
  refine on_ HT (h := fun K hK => ?_)
  refine cn_ ((admit_unless.calls true 1 _).mono (fun e w' ⟨fv, he, h1, h2⟩ => ⟨_, he, h1, h2⟩)) (R := fun v w' => Asks w' v (unE true 1) ∧ Below _ _ w') (h := fun v5 w5 hv5 => ?_)
  obtain ⟨ha5, hb3⟩ := hv5
  refine hK.out _ _ ⟨below_step (hHeld.1) hb3, be_cell hb3 (hHeld.2.1), be_cell hb3 (hHeld.2.2.1), be_cell hb3 (hHeld.2.2.2)⟩ (fun hHeld => ?_)
  refine nm_ (h := ?_)
  repeat (first | refine pn_ HT (h := ?_) | refine tn_ HT HW hHeld (h := ?_) | refine zn_ HT (h := ?_))
  refine on_ HT (h := fun K hK => ?_)
  refine cn_ ((admit_fit.calls A2 c2 p.f1 p.f0 w5 (Kd.F_now (Kd.F_below G2.out (Below.trans hb (Below.mono (hHeld.1) (by omega)))))).mono (fun e w' ⟨fv, he, h1, h2⟩ => ⟨_, he, h1, h2⟩)) (R := fun v w' => (taskA p.f1 = true → supR p.f0 = true → Asks w' v (fitE p.f1 p.f0)) ∧ Below w5.heap.size w5 w') (h := fun v6 w6 hv6 => ?_)
  obtain ⟨ha6, hb3⟩ := hv6
  have ha6 := ha6 HT1.out HF1.out
  have ha5 := Asks_below ha5 hb3
  obtain ⟨fn5, cp5, rfl, hn5, hc5⟩ := ha5
  obtain ⟨fn6, cp6, rfl, hn6, hc6⟩ := ha6
  have ha5 : Asks w6 (.func (.func fn5) #[] cp5) (unE true 1) := ⟨fn5, cp5, rfl, hn5, hc5⟩
  have ha6 : Asks w6 (.func (.func fn6) #[] cp6) (fitE p.f1 p.f0) := ⟨fn6, cp6, rfl, hn6, hc6⟩
  clear hn5 hc5 hn6 hc6
  refine hK.out _ _ ⟨below_step (hHeld.1) hb3, be_cell hb3 (hHeld.2.1), be_cell hb3 (hHeld.2.2.1), be_cell hb3 (hHeld.2.2.2)⟩ (fun hHeld => ?_)
  refine nm_ (h := ?_)
  repeat (first | refine pn_ HT (h := ?_) | refine tn_ HT HW hHeld (h := ?_) | refine zn_ HT (h := ?_))
  refine on_ HT (h := fun K hK => ?_)
  refine ev_ (w1 := w6.alloc (.cells #[.func (.func fn5) #[] cp5, .func (.func fn6) #[] cp6] 125)) (v := .slice (some ⟨w6.heap.size, 0, none⟩) 2 2) (by go_simp; done) ?_
  refine hK.out _ _ ⟨below_alloc (hHeld.1) _, al_cell (hHeld.2.1) _, al_cell (hHeld.2.2.1) _, al_cell (hHeld.2.2.2) _⟩ (fun hHeld => ?_)
  refine nm_ (h := ?_)
  have hBS := blk_new w6 (.cells #[.func (.func fn5) #[] cp5, .func (.func fn6) #[] cp6] 125)
  have ha5 := Asks_below ha5 (@bl1 w6 (.cells #[.func (.func fn5) #[] cp5, .func (.func fn6) #[] cp6] 125))
  have ha6 := Asks_below ha6 (@bl1 w6 (.cells #[.func (.func fn5) #[] cp5, .func (.func fn6) #[] cp6] 125))
  have hbS : Below wa.heap.size wa (w6.alloc (.cells #[.func (.func fn5) #[] cp5, .func (.func fn6) #[] cp6] 125)) := (hHeld.1)
  repeat (first | refine pn_ HT (h := ?_) | refine tn_ HT HW hHeld (h := ?_) | refine zn_ HT (h := ?_))
  refine ln_ HT (h := fun K hK => ?_)
  refine cn_ ((admit_first.calls [.func (.func fn5) #[] cp5, .func (.func fn6) #[] cp6] [unE true 1, fitE p.f1 p.f0] w6.heap.size (w6.alloc (.cells #[.func (.func fn5) #[] cp5, .func (.func fn6) #[] cp6] 125)) rfl (by simp) hBS (fun i hi hz => by match i, hi with | 0, _ => exact ha5 | 1, _ => exact ha6)).mono (fun e w' ⟨he, h2⟩ => ⟨_, he, rfl, h2⟩)) (R := fun v w' => v = .int .i64 (firstE [unE true 1, fitE p.f1 p.f0]) ∧ Below (w6.alloc (.cells #[.func (.func fn5) #[] cp5, .func (.func fn6) #[] cp6] 125)).heap.size (w6.alloc (.cells #[.func (.func fn5) #[] cp5, .func (.func fn6) #[] cp6] 125)) w') (h := fun v7 w7 hv7 => ?_)
  obtain ⟨rfl, hb7⟩ := hv7
  have hfe : firstE [unE true 1, fitE p.f1 p.f0] = fitE p.f1 p.f0 := by
    show (if (0 : Int) = 0 then (if fitE p.f1 p.f0 = 0 then 0 else fitE p.f1 p.f0) else 0) = _
    rw [if_pos rfl]
    split
    · rename_i h; exact h.symm
    · rfl
  rw [hfe]
  refine hK.out _ _ ?_
  refine nm_ (h := ?_)
  repeat (first | refine pn_ HT (h := ?_) | refine zn_ HT (h := ?_))
  refine dn_ HT (h := ?_)
  have hb8 := below_step hbS hb7
  clear HT HW hHeld hb7 ha5 ha6 hBS hbS hfe
  have hB7 := blk_below hB0 hb8
  have hR7 := blk_below hRB hb8
  have hb9 := Below.trans hb (Below.mono hb8 (by omega))
  have hs7 := hb8.size
  rw [hz2] at hs7
  clear x0 x1 x2 hB0 hRB
  generalize hfv : fitE p.f1 p.f0 = e at hvb ⊢
  have HFV := Aside0.mk hfv
  clear hfv
  by_cases ce : e = 0
  · have hv := Aside0.mk (show bootP p = (newP p.f1, 0) by unfold bootP; rw [HFV.out, if_pos ce])
    subst ce
    obtain ⟨x0, x1, x2⟩ := bx3 hB7
    go_wp2_with fail
    refine (part_New.calls A2 c2 p.f1 (fun k => ok k ∧ k < w.heap.size) w7 (Kd.F_below G2.out hb9) HT1.out).mono ?_; rintro e w8 ⟨cs', rfl, hF, hbn⟩
    have HF := Aside0.mk hF
    obtain ⟨B0, d0, B1, d1, B2, d2, B3, d3, B4, d4, rfl, -, -, -, -, -, -, -, -, -, -⟩ := k80_openF hF
    clear hF
    have hR8 := blk_below hR7 hbn
    have hbA := below_step hb9 hbn
    go_wp2_with ((with_reducible refine gate_store (t := 80) (p := 2) (v := .tmp 28) rfl ?_); refine stB (w0 := w) (base := w.heap.size) (seg := [.slice B0 (newP p.f1).f0.length d0, .slice B1 (newP p.f1).f1.length d1, .slice B2 (newP p.f1).f2.length d2, .slice B3 (newP p.f1).f3.length d3, .slice B4 (newP p.f1).f4.length d4]) (cs' := [.slice B0 (newP p.f1).f0.length d0, .slice B1 (newP p.f1).f1.length d1, .slice B2 (newP p.f1).f2.length d2, .slice B3 (newP p.f1).f3.length d3, .slice B4 (newP p.f1).f4.length d4]) hR8 hbA (by omega) (h := fun wy hBy hby hgy => ?_))
    (try simp only [Exit.inBlock, Exit.then])
    refine bodyPost_ret (results_list (rs := [.cell 2 80, .tmp 3]) rfl (by simp) (.cell _ 80 _ (0, 0) _ rfl hBy Tryz.underlying80 rfl (by kernel_rfl) (.tmp .nil))) rfl ?_
    refine ⟨_, by rw [hv.out]; rfl, ?_, hby⟩
    rw [hv.out]
    exact Kd.FK_mono (Kd.FK_grown HF.out hgy (fun k hk he => by have h1 := Option.some.inj he; rcases hk with h | h <;> omega)) (fun k hk => hk.elim (fun h => Or.inl h.1) (fun h => Or.inr (by omega)))
  · have hv := Aside0.mk (show bootP p = (s0, e) by unfold bootP; rw [HFV.out, if_neg ce])
    have ce2 : (e == 0) = false := by simpa using ce
    clear ce
    go_wp2_with ((with_reducible refine gate_store (t := 80) (p := 2) (v := .tmp 23) rfl ?_); refine stB (w0 := w) (base := w.heap.size) (seg := [.slice none 0 0, .slice none 0 0, .slice none 0 0, .slice none 0 0, .slice none 0 0]) (cs' := [.slice none 0 0, .slice none 0 0, .slice none 0 0, .slice none 0 0, .slice none 0 0]) hR7 hb9 (by omega) (h := fun wy hBy hby hgy => ?_))
    (try simp only [Exit.inBlock, Exit.then])
    refine bodyPost_ret (results_list (rs := [.cell 2 80, .tmp 3]) rfl (by simp) (.cell _ 80 _ (0, 0) _ rfl hBy Tryz.underlying80 rfl (by kernel_rfl) (.tmp .nil))) rfl ?_
    exact ⟨_, by rw [hv.out]; rfl, by rw [hv.out]; exact k80_zero _ _, hby⟩
end Go.Proofs.YtmngaagojkihbaaGreat.FTop
