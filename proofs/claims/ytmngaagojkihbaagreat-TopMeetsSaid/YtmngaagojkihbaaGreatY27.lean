/- Contracts of functions that the statement TopMeets reaches, and plain lemmas. No condition. -/
import Derived.Test.YtmngaagojkihbaaGreatY26
namespace Go.Proofs.YtmngaagojkihbaaGreat.FTop
set_option linter.unusedVariables false
set_option linter.unusedSimpArgs false
structure Lk (p : Nat) (x y : S135) : Prop where
 a : x.f0 = y.f0
 b : x.f1 = y.f1
 c : x.f0.f1 = (p : Int) → x.f2 = y.f2
structure Eqv (p : Nat) (q q' : S66 × List S36) : Prop where
 a0 : q.1.f0 = q'.1.f0
 a1 : q.1.f1 = q'.1.f1
 a2 : q.1.f2 = q'.1.f2
 a5 : q.1.f5 = q'.1.f5
 n3 : q.1.f3.length = q'.1.f3.length
 a3 : q.1.f3.getD p z80 = q'.1.f3.getD p z80
 n4 : q.1.f4.length = q'.1.f4.length
 a4 : ∀ i, Lk p (q.1.f4.getD i z135) (q'.1.f4.getD i z135)
 nv : q.2.length = q'.2.length
 av : q.2.getD p z36 = q'.2.getD p z36
theorem Lk.symm {p : Nat} {x y : S135} (h : Lk p x y) : Lk p y x := ⟨h.a.symm, h.b.symm, fun hy => (h.c (by rw [h.a]; exact hy)).symm⟩
theorem Lk.trans {p : Nat} {x y z : S135} (h : Lk p x y) (g : Lk p y z) : Lk p x z := ⟨h.a.trans g.a, h.b.trans g.b, fun hx => (h.c hx).trans (g.c (by rw [← h.a]; exact hx))⟩
theorem Eqv.symm {p : Nat} {q q' : S66 × List S36} (h : Eqv p q q') : Eqv p q' q := ⟨h.a0.symm, h.a1.symm, h.a2.symm, h.a5.symm, h.n3.symm, h.a3.symm, h.n4.symm, fun i => (h.a4 i).symm, h.nv.symm, h.av.symm⟩
theorem Eqv.trans {p : Nat} {q q' q'' : S66 × List S36} (h : Eqv p q q') (g : Eqv p q' q'') : Eqv p q q'' := ⟨h.a0.trans g.a0, h.a1.trans g.a1, h.a2.trans g.a2, h.a5.trans g.a5, h.n3.trans g.n3, h.a3.trans g.a3, h.n4.trans g.n4, fun i => (h.a4 i).trans (g.a4 i), h.nv.trans g.nv, h.av.trans g.av⟩
theorem gset {α : Type} (l : List α) (p q : Nat) (v z : α) : (l.set p v).getD q z = if q = p ∧ p < l.length then v else l.getD q z := by
 rw [List.getD_eq_getElem?_getD, List.getD_eq_getElem?_getD, List.getElem?_set]
 by_cases h : p = q
 ·subst h
  by_cases hl : p < l.length
  ·simp [hl]
  ·simp [hl]
 ·rw [if_neg h, if_neg (fun hh => h hh.1.symm)]
structure EqK (p : Nat) (s s' : S66) : Prop where
 a0 : s.f0 = s'.f0
 a1 : s.f1 = s'.f1
 a2 : s.f2 = s'.f2
 a5 : s.f5 = s'.f5
 n3 : s.f3.length = s'.f3.length
 a3 : s.f3.getD p z80 = s'.f3.getD p z80
 n4 : s.f4.length = s'.f4.length
 a4 : ∀ i, Lk p (s.f4.getD i z135) (s'.f4.getD i z135)
theorem Eqv.k {p : Nat} {q q' : S66 × List S36} (h : Eqv p q q') : EqK p q.1 q'.1 := ⟨h.a0, h.a1, h.a2, h.a5, h.n3, h.a3, h.n4, h.a4⟩
theorem EqK.v {p : Nat} {q q' : S66 × List S36} (h : EqK p q.1 q'.1) (nv : q.2.length = q'.2.length) (av : q.2.getD p z36 = q'.2.getD p z36) : Eqv p q q' := ⟨h.a0, h.a1, h.a2, h.a5, h.n3, h.a3, h.n4, h.a4, nv, av⟩
end Go.Proofs.YtmngaagojkihbaaGreat.FTop
namespace Go.Proofs.YtmngaagojkihbaaGreat.FTop
open Go.RowKit Go.Proofs.YtmngaagojkihbaaGreatW.PrintWords Go.Proofs.YtmngaagojkihbaaGreatW.PrintLast Go.Proofs.YtmngaagojkihbaaGreatW.PrintMore
attribute [local go_sem] max2_int min2_int max_two min_two
set_option linter.unusedVariables false
set_option linter.unusedSimpArgs false
set_option maxHeartbeats 8000000
set_option maxRecDepth 100000
def top_Meets.T12 : Bool × List (List Nat × List Nat) := (true, [([], []), ([0], [0]), ([1], [1]), ([2], [2]), ([3, 2], [2, 3]), ([4, 2], [2, 4]), ([2, 5], [2, 5]), ([6, 2], [6]), ([7, 7], [7]), ([7, 8], [7, 8]), ([9, 8, 0, 1, 2, 3, 4, 5, 6, 7, 8, 9], [9])])
def top_Meets.B12 : List Nat := [0, 1, 3, 7, 15, 31, 63, 127, 255, 511, 1023]
theorem top_Meets.tab12 : rtab .any (opsOf Tryz.f3 12) = top_Meets.T12 := by kernel_rfl
theorem top_Meets.bits12 : waitsOk top_Meets.T12.2 top_Meets.B12 = true := by kernel_rfl
def MeetsP (b : List Int) (l : List S41) : Prop := fewP l → b.length ≤ 500 → ∀ v ∈ (playK b (scrL l)).1, ∀ en ∈ v.f2, en.f1 ≠ 6
theorem play_or (b : List Int) (scr : List (List S46)) : (playK b scr).2 = 0 ∨ (playK b scr).1.length = 0 := by
 unfold playK
 split
 ·split
  ·split
   ·exact .inl rfl
   ·exact .inr rfl
  ·exact .inr rfl
 ·exact .inr rfl
set_option maxHeartbeats 40000000
theorem top_Meets.calls (Ab : Option Addr) (cb : Nat) (b : List Int) (A : Option Addr) (c : Nat) (l : List S41) (w : World) (hC : Kd.C (Kd.int .u8) w Ab b.length b) (hb0 : ∀ x ∈ b, 0 ≤ x ∧ x ≤ 255) (hL : Kd.C k41 w A l.length l) (hlaw : MeetsP b l) :
  Ret 3 #[.slice Ab b.length cb, .slice A l.length c] w (.bool true) := by
 have hu2 := Tryz.underlying41
 have hu3 := Tryz.underlying36
 have hu4 := Tryz.underlying38
 have HC := Aside0.mk hC
 have HB := Aside0.mk hb0
 have HL := Aside0.mk hL
 have HLAW := Aside0.mk hlaw
 have hbl := hC.2.1
 have hll0 := hL.2.1
 have HLF := Aside0.mk (Kd.C_F k41_heap hL)
 have HCF := Aside0.mk (Kd.C_F (Kd.heap_int .u8) hC)
 clear hC hb0 hL hlaw
 go_enter Tryz.func3, Tryz.ntmps3
 go_wp2_with fail
 refine (law22_Great.calls Ab cb b A c l w HC.out HB.out HL.out).mono ?_; rintro _ w2 ⟨⟨g, rfl, hg⟩, hb2⟩
 have HG := Aside0.mk hg
 clear hg
 cases g
 ·have HFL := Aside0.mk (HG.out rfl)
  have hl100 := HFL.out.1.1
  have hb500 := HFL.out.2
  have HSL := Aside0.mk (show (scrL l).length = l.length from List.length_map ..)
  have hlaw2 := HLAW.out HFL.out.1 HFL.out.2
  clear HLAW HG HFL
  have hN0_5 := N_empty (d := Kd.int .u8) w2 w2.heap.size (fun _ => True) 5 (Nat.le_refl _) trivial
  go_wp2_with ((with_reducible refine gate_builtin (b := .append) (xs := #[.tmp 14, .tmp 15]) rfl ?_); at_builtin; refine stop_ ?_)
  refine ⟨?_⟩
  refine apNR row5 (w0 := w2) (base := w2.heap.size) hN0_5 (Kd.F_below HCF.out (below_alloc hb2 _)) (fun k hk => ⟨trivial, fun he => by have h1 : k = w2.heap.size := Option.some.inj he; have := hb2.size; omega⟩) (fun _ _ => trivial) bl1 (by rw [alsz]; omega) (by show 0 + b.length ≤ 100000; omega) (h := fun v5 w5 hN5 hb5 hg5 hat5 => ?_)
  rw [List.nil_append] at hN5
  obtain ⟨B5, d5, rfl⟩ := Kd.N_slice hN5
  have HC5 := Aside0.mk (Kd.N_reads' hN5).2.2
  have hB5 := below_step hb2 hb5
  clear hN5 hg5 hat5 hN0_5
  go_wp2_with fail
  refine (top_script.calls A c l _ w5 (Kd.F_below HLF.out hB5) (by omega)).mono ?_; rintro _ w6 ⟨A6, c6, rfl, hF6, hb6⟩
  have hB6 := below_step hB5 hb6
  have HC6 := Aside0.mk (Kd.C_below HC5.out hb6)
  have hS6 : Kd.F kAsks w6 (nw (fun k => k < w.heap.size) w5) A6 (scrL l).length (scrL l) := by rw [HSL.out]; exact hF6
  have K6 := world_Play.calls B5 d5 b A6 c6 (scrL l) _ w6 HC6.out HB.out (by omega) hS6 (by rw [HSL.out]; omega)
  rw [HSL.out] at K6
  clear hS6 hF6
  go_wp2_with fail
  refine K6.mono ?_; rintro _ w7 ⟨V1, e1, rfl, hVl1, hV1, hb7⟩
  clear K6
  have hB7 := below_step hB6 hb7
  have hq0 := play_or b (scrL l)
  generalize playK b (scrL l) = pk at hlaw2 hVl1 hV1 hq0 ⊢
  have HQ := Aside0.mk hq0
  clear hq0
  have HV := Aside0.mk hV1
  have HLAW := Aside0.mk hlaw2
  have hPl := (Kd.F_now hV1).2.1
  clear hV1 hb7 hb6 hb5 hB5 hB6 HC6 HC5 hlaw2
  go_wp2
  go_loopg [7] pk.1.length (fun k v7 wr => ∃ i : Nat, i + k = pk.1.length ∧ v7 = .int .i64 i ∧ Below w.heap.size w wr ∧ Below w7.heap.size w7 wr)
  case atStart => exact ⟨0, by omega, by go_num, hB7, bl0⟩
  case round =>
   clear hB7
   obtain ⟨i, hi, rfl, hbr, hbs⟩ := hrel
   by_cases ci : i < pk.1.length
   ·obtain ⟨ad, A0, c0, A1, c1, A2, c2, v, hAd, hv, p0, p1, p2, l0, g0, l1, g1, l2, g2⟩ := el36F (Kd.F_below HV.out hbs) i ci
    subst hAd
    have HG2 := Aside0.mk g2
    have HP := Aside0.mk p2
    have hLv := Aside0.mk (HLAW.out v (by rw [← hv.out]; exact List.getElem_mem ci))
    have hl2 := (Kd.F_now g2).2.1
    obtain ⟨wi, hwi⟩ : ∃ wi, wi = wr := ⟨_, rfl⟩
    have hbi : Below wi.heap.size wi wr := by rw [hwi]; exact bl0
    have HG3 := Aside0.mk (show Kd.F k38 wi _ A2 v.f2.length v.f2 from by rw [hwi]; exact g2)
    have HP3 := Aside0.mk (show wi.cell? ⟨(ad.add (i * 3)).block, (ad.add (i * 3)).off + 2, none⟩ = some (.slice A2 v.f2.length c2) from by rw [hwi]; exact p2)
    clear g0 g1 g2 p0 p1 p2 HG2 HP hwi
    go_wp2
    go_loopg [8] v.f2.length (fun k v8 wr => ∃ j : Nat, j + k = v.f2.length ∧ v8 = .int .i64 j ∧ Below w.heap.size w wr ∧ Below w7.heap.size w7 wr ∧ Below wi.heap.size wi wr)
    case atStart => exact ⟨0, by omega, by go_num, hbr, hbs, hbi⟩
    case round =>
     clear hbr hbs hbi
     obtain ⟨j, hj, rfl, hbr, hbs, hbi⟩ := hrel
     have p2 := be_cell hbi HP3.out
     by_cases cj : j < v.f2.length
     ·obtain ⟨ad2, en, hA2, hen, u0, u1, u2⟩ := el38 (Kd.F_now (Kd.F_below HG3.out hbi)) j cj
      subst hA2
      have hne : (en.f1 == 6) = false := by
       have h := hLv.out en (by rw [← hen.out]; exact List.getElem_mem cj)
       simpa using h
      go_wp2
      go_roundg (v.f2.length - j - 1)
      case measure => omega
      case rel => exact ⟨j + 1, by omega, by go_num, hbr, hbs, hbi⟩
     ·go_wp2
      go_roundg (pk.1.length - i - 1)
      case measure => omega
      case rel => exact ⟨i + 1, by omega, by go_num, hbr, hbs⟩
   ·rcases HQ.out with hq | hq
    ·have hq2 : (pk.2 == 0) = true := by rw [hq]; rfl
     go_wp2_with fail
     refine (top_works.calls wr).mono ?_; rintro _ w4 ⟨rfl, hb4⟩
     have hbB := below_step hbr hb4
     go_wp2
     go_ret
     exact ⟨rfl, hbB⟩
    ·have hq1 : ((pk.1.length : Int) == 0) = true := by rw [hq]; rfl
     by_cases hp : pk.2 = 0
     ·have hq2 : (pk.2 == 0) = true := by rw [hp]; rfl
      clear hq
      go_wp2_with fail
      refine (top_works.calls wr).mono ?_; rintro _ w4 ⟨rfl, hb4⟩
      have hbB := below_step hbr hb4
      go_wp2
      go_ret
      exact ⟨rfl, hbB⟩
     ·have hq2 : (pk.2 == 0) = false := by simpa using hp
      clear hq
      go_wp2_with fail
      refine (top_works.calls wr).mono ?_; rintro _ w4 ⟨rfl, hb4⟩
      have hbB := below_step hbr hb4
      go_wp2
      go_ret
      exact ⟨rfl, hbB⟩
 ·go_wp2_with fail
  refine (top_works.calls w2).mono ?_; rintro _ w4 ⟨rfl, hb4⟩
  have hbB := below_step hb2 hb4
  go_wp2
  go_ret
  exact ⟨rfl, hbB⟩
end Go.Proofs.YtmngaagojkihbaaGreat.FTop
namespace Go.Proofs.YtmngaagojkihbaaGreat.FTop
open Go.Proofs.YtmngaagojkihbaaGreatW.PrintWords Go.Proofs.YtmngaagojkihbaaGreatW.PrintLast Go.Proofs.YtmngaagojkihbaaGreatW.PrintMore
set_option linter.unusedVariables false
set_option linter.unusedSimpArgs false
def sumI {α : Type} (f : α → Int) (l : List α) : Int := (l.map f).sum
theorem sumI_nil {α : Type} (f : α → Int) : sumI f [] = 0 := rfl
theorem sumI_cons {α : Type} (f : α → Int) (a : α) (l : List α) : sumI f (a :: l) = f a + sumI f l := by simp [sumI]
theorem sumI_append {α : Type} (f : α → Int) (l m : List α) : sumI f (l ++ m) = sumI f l + sumI f m := by simp [sumI]
theorem foldl_sum {α : Type} (f : α → Int) (l : List α) : ∀ s : Int, l.foldl (fun s x => s + f x) s = s + sumI f l := by
 induction l with
 | nil => intro s; simp [sumI]
 | cons a l ih => intro s; rw [List.foldl_cons, ih, sumI_cons]; omega
theorem sumI_congr {α : Type} {f g : α → Int} {l : List α} (h : ∀ x ∈ l, f x = g x) : sumI f l = sumI g l := by
 induction l with
 | nil => rfl
 | cons a l ih => rw [sumI_cons, sumI_cons, h a (List.mem_cons_self ..), ih (fun x hx => h x (List.mem_cons_of_mem _ hx))]
theorem sumI_add {α : Type} (f g : α → Int) (l : List α) : sumI (fun x => f x + g x) l = sumI f l + sumI g l := by
 induction l with
 | nil => rfl
 | cons a l ih => rw [sumI_cons, sumI_cons, sumI_cons, ih]; omega
theorem sumI_le {α : Type} {f g : α → Int} {l : List α} (h : ∀ x ∈ l, f x ≤ g x) : sumI f l ≤ sumI g l := by
 induction l with
 | nil => exact Int.le_refl _
 | cons a l ih => rw [sumI_cons, sumI_cons]; have := h a (List.mem_cons_self ..); have := ih (fun x hx => h x (List.mem_cons_of_mem _ hx)); omega
theorem sumI_nonneg {α : Type} {f : α → Int} {l : List α} (h : ∀ x ∈ l, 0 ≤ f x) : 0 ≤ sumI f l := by
 have := sumI_le (f := fun _ => 0) h
 have h0 : sumI (fun _ : α => (0 : Int)) l = 0 := by
  clear this h
  induction l with
  | nil => rfl
  | cons a l ih => rw [sumI_cons, ih]; rfl
 omega
theorem demI_sum (l : List S44) (t : Int) : demI l t = sumI (fun x => x.f0 * jobsN x t) l := by
 unfold demI; rw [foldl_sum (fun x : S44 => x.f0 * jobsN x t)]; omega
theorem askI_sum (cy : Int) (l : List S44) : askI cy l = sumI (fun x => cy / x.f2 * x.f0) l := by
 unfold askI; rw [foldl_sum (fun x : S44 => cy / x.f2 * x.f0)]; omega
theorem dvd_lcmI {a b : Int} (ha : 1 ≤ a) (hb : 1 ≤ b) : a ∣ lcmI a b ∧ b ∣ lcmI a b := by
 unfold lcmI
 have g1 : ((Int.gcd a b : Nat) : Int) ∣ a := Int.gcd_dvd_left ..
 have g2 : ((Int.gcd a b : Nat) : Int) ∣ b := Int.gcd_dvd_right ..
 refine ⟨?_, Int.dvd_mul_left _ _⟩
 obtain ⟨k, hk⟩ := g2
 have hg : ((Int.gcd a b : Nat) : Int) ≠ 0 := by
  intro h0
  have : Int.gcd a b = 0 := by omega
  have := (Int.gcd_eq_zero_iff.1 this).1
  omega
 refine ⟨k, ?_⟩
 have e1 : a / (Int.gcd a b : Nat) * b = a / (Int.gcd a b : Nat) * ((Int.gcd a b : Nat) * k) := by rw [← hk]
 rw [e1, ← Int.mul_assoc, Int.ediv_mul_cancel g1]
theorem cycL_spec {f : S85} (hf : supR f = true) : ∀ {l : List S44}, (∀ t ∈ l, taskR t = true) → ∀ {c far : Int}, cycL f l = some (c, far) → 1 ≤ c ∧ f.f0 ∣ c ∧ 2 * f.f0 ≤ far ∧ ∀ t ∈ l, t.f2 ∣ c ∧ t.f1 ≤ far := by
 have hf' : 1 ≤ f.f1 ∧ f.f1 ≤ f.f0 ∧ f.f0 ≤ 200 := by simpa [supR] using hf
 intro l
 have hgen : ∀ (n : Nat), n ≤ l.length → (∀ t ∈ l, taskR t = true) → ∀ {c far : Int}, cycL f (l.take n) = some (c, far) → 1 ≤ c ∧ f.f0 ∣ c ∧ 2 * f.f0 ≤ far ∧ ∀ t ∈ l.take n, t.f2 ∣ c ∧ t.f1 ≤ far := by
  intro n
  induction n with
  | zero =>
   intro _ _ c far h
   rw [List.take_zero] at h ⊢
   have h : some (f.f0, 2 * f.f0) = some (c, far) := h
   simp only [Option.some.injEq, Prod.mk.injEq] at h
   obtain ⟨rfl, rfl⟩ := h
   exact ⟨by omega, Int.dvd_refl _, Int.le_refl _, fun t ht => by simp at ht⟩
  | succ n ih =>
   intro hn hT c far h
   rw [cycL_snoc f l n (by omega)] at h
   cases hp : cycL f (l.take n) with
   | none => rw [hp] at h; simp [cyc1] at h
   | some p =>
    obtain ⟨c0, far0⟩ := p
    rw [hp] at h
    obtain ⟨h1, h2, h3, h4⟩ := ih (by omega) hT hp
    have ht := taskR_own (hT l[n] (List.getElem_mem _))
    simp only [cyc1] at h
    split at h
    ·exact absurd h (by simp)
    ·simp only [Option.some.injEq, Prod.mk.injEq] at h
     obtain ⟨rfl, rfl⟩ := h
     have hl := lcmI_bd h1 (show 1 ≤ l[n].f2 by omega)
     obtain ⟨d1, d2⟩ := dvd_lcmI h1 (show 1 ≤ l[n].f2 by omega)
     have hm : far0 ≤ mx far0 l[n].f1 ∧ l[n].f1 ≤ mx far0 l[n].f1 := by unfold mx; split <;> omega
     refine ⟨hl.1, Int.dvd_trans h2 d1, by omega, fun t ht => ?_⟩
     rw [List.take_succ_eq_append_getElem (by omega)] at ht
     rcases List.mem_append.1 ht with ht | ht
     ·exact ⟨Int.dvd_trans (h4 t ht).1 d1, by have := (h4 t ht).2; omega⟩
     ·rw [List.mem_singleton.1 ht]; exact ⟨d2, hm.2⟩
 intro hT c far h
 have := hgen l.length (Nat.le_refl _) hT (c := c) (far := far) (by rw [List.take_length]; exact h)
 rw [List.take_length] at this
 exact this
theorem jobsN_cyc {x : S44} (hx : taskR x = true) {t c : Int} (ht : x.f1 ≤ t) (hc : 0 ≤ c) (hd : x.f2 ∣ c) : jobsN x (t + c) = jobsN x t + c / x.f2 := by
 have hx := taskR_own hx
 unfold jobsN
 rw [if_neg (by omega), if_neg (by omega)]
 obtain ⟨k, rfl⟩ := hd
 rw [Int.mul_ediv_cancel_left _ (by omega), show t + x.f2 * k - x.f1 = (t - x.f1) + x.f2 * k by omega, Int.add_mul_ediv_left _ _ (by omega)]
 omega
theorem supI_cyc {f : S85} (hf : supR f = true) {t c : Int} (ht : f.f0 ≤ t) (hc : 0 ≤ c) (hd : f.f0 ∣ c) : supI f (t + c) = supI f t + c / f.f0 * f.f1 := by
 have hf' : 1 ≤ f.f1 ∧ f.f1 ≤ f.f0 ∧ f.f0 ≤ 200 := by simpa [supR] using hf
 obtain ⟨k, rfl⟩ := hd
 have e : (t + f.f0 * k - (f.f0 - f.f1)) / f.f0 = (t - (f.f0 - f.f1)) / f.f0 + k := by
  rw [show t + f.f0 * k - (f.f0 - f.f1) = (t - (f.f0 - f.f1)) + f.f0 * k by omega, Int.add_mul_ediv_left _ _ (by omega)]
 have hk : 0 ≤ f.f0 * k := hc
 rw [supI_of (q := (t - (f.f0 - f.f1)) / f.f0 + k) (by omega) e, supI_of (q := (t - (f.f0 - f.f1)) / f.f0) (by omega) rfl, Int.mul_ediv_cancel_left _ (by omega)]
 generalize (t - (f.f0 - f.f1)) / f.f0 = q
 rw [Int.add_mul, Int.add_mul, Int.mul_comm f.f0 k]
 have : t + k * f.f0 - 2 * (f.f0 - f.f1) - (q * f.f0 + k * f.f0) = t - 2 * (f.f0 - f.f1) - q * f.f0 := by omega
 rw [this]
 omega
theorem demI_cyc {l : List S44} (hl : ∀ x ∈ l, taskR x = true) {t c : Int} (ht : ∀ x ∈ l, x.f1 ≤ t) (hc : 0 ≤ c) (hd : ∀ x ∈ l, x.f2 ∣ c) : demI l (t + c) = demI l t + askI c l := by
 rw [demI_sum, demI_sum, askI_sum, ← sumI_add]
 refine sumI_congr (fun x hx => ?_)
 rw [jobsN_cyc (hl x hx) (ht x hx) hc (hd x hx), Int.mul_add, Int.mul_comm x.f0 (c / x.f2)]
theorem blkI_far {l : List S44} {t : Int} (ht : ∀ x ∈ l, x.f1 ≤ t) : blkI l t = 0 := by
 unfold blkI
 have : ∀ (k : List S44), (∀ x ∈ k, x.f1 ≤ t) → ∀ m, k.foldl (blk1 l t) m = m := by
  intro k
  induction k with
  | nil => intro _ m; rfl
  | cons a k ih =>
   intro h m
   rw [List.foldl_cons, show blk1 l t m a = m from by unfold blk1; rw [if_pos (h a (List.mem_cons_self ..))]]
   exact ih (fun x hx => h x (List.mem_cons_of_mem _ hx)) m
 exact this l ht 0
def FitA (l : List S44) (f : S85) : Prop := ∀ t : Nat, needI l t ≤ supI f t
theorem fit_all {l : List S44} {f : S85} (hl : taskA l = true) (hf : supR f = true) (h : fitE l f = 0) : FitA l f := by
 have hT := (taskA_iff.1 hl).1
 have hf' : 1 ≤ f.f1 ∧ f.f1 ≤ f.f0 ∧ f.f0 ≤ 200 := by simpa [supR] using hf
 have h1 : (fitsI l f).2 = 0 ∧ (fitsI l f).1 = true := by
  unfold fitE at h
  split at h
  ·exact absurd h (by decide)
  ·rename_i hn
   refine ⟨h, ?_⟩
   cases hb : (fitsI l f).1 with
   | true => rfl
   | false => exact absurd ⟨h, hb⟩ hn
 clear h
 cases hc : cycI l f with
 | none => unfold fitsI at h1; rw [hc] at h1; exact absurd h1.1 (show ¬ ((5 : Int) = 0) by decide)
 | some p =>
  obtain ⟨c, e⟩ := p
  unfold fitsI at h1
  rw [hc] at h1
  dsimp only at h1
  split at h1
  ·exact absurd h1.2 (by simp)
  ·rename_i hask
   have hfa : failsB l f e = false := by simpa using h1.2
   unfold cycI at hc
   cases hp : cycL f l with
   | none => rw [hp] at hc; exact absurd hc (by simp)
   | some q =>
    obtain ⟨c0, far⟩ := q
    rw [hp] at hc
    dsimp only at hc
    split at hc
    ·exact absurd hc (by simp)
    ·simp only [Option.some.injEq, Prod.mk.injEq] at hc
     obtain ⟨rfl, rfl⟩ := hc
     obtain ⟨k1, k2, k3, k4⟩ := cycL_spec hf hT hp
     have hlow : ∀ t : Nat, (t : Int) ≤ c0 + far → needI l t ≤ supI f t := by
      intro t ht
      unfold failsB at hfa
      have hnil : failL l f ((c0 + far).toNat + 1) = [] := by simpa using hfa
      unfold failL at hnil
      rw [List.map_eq_nil_iff, List.filter_eq_nil_iff] at hnil
      have := hnil t (List.mem_range.2 (by omega))
      simp only [failB, decide_eq_true_eq] at this
      omega
     intro t
     induction t using Nat.strongRecOn with
     | ind t ih =>
      by_cases ht : (t : Int) ≤ c0 + far
      ·exact hlow t ht
      ·have h2 := ih (t - c0.toNat) (by omega)
       have e1 : ((t - c0.toNat : Nat) : Int) = (t : Int) - c0 := by omega
       rw [e1] at h2
       have hs := supI_cyc hf (t := (t : Int) - c0) (c := c0) (by omega) (by omega) k2
       have hd := demI_cyc hT (t := (t : Int) - c0) (c := c0) (fun x hx => by have := (k4 x hx).2; omega) (by omega) (fun x hx => (k4 x hx).1)
       have hb1 := blkI_far (l := l) (t := (t : Int) - c0) (fun x hx => by have := (k4 x hx).2; omega)
       have hb2 := blkI_far (l := l) (t := (t : Int)) (fun x hx => by have := (k4 x hx).2; omega)
       rw [show (t : Int) - c0 + c0 = t by omega] at hs hd
       unfold needI at h2 ⊢
       rw [hs, hd, hb2]
       rw [hb1] at h2
       omega
theorem ahead_iff (a b : S182) : jobAhead a b = true ↔ a.f2 < b.f2 ∨ (a.f2 = b.f2 ∧ (a.f0 < b.f0 ∨ (a.f0 = b.f0 ∧ a.f1 < b.f1))) := by
 unfold jobAhead
 by_cases h : a.f2 = b.f2
 ·by_cases h0 : a.f0 = b.f0
  ·simp [h, h0]
  ·simp [h, h0]
 ·rw [if_pos h]; simp [h]
theorem ahead_trans {a b c : S182} (h : jobAhead a b = true) (g : jobAhead b c = true) : jobAhead a c = true := by
 rw [ahead_iff] at *; omega
theorem ahead_asym {a b : S182} (h : jobAhead a b = true) : jobAhead b a = false := by
 cases hb : jobAhead b a with
 | false => rfl
 | true => rw [ahead_iff] at *; omega
theorem ahead_or {a b : S182} (h : keyNe a b) : jobAhead a b = true ∨ jobAhead b a = true := by
 rw [ahead_iff, ahead_iff]
 by_cases h0 : b.f0 = a.f0
 ·have : b.f1 ≠ a.f1 := fun h1 => h ⟨h0, h1⟩
  omega
 ·omega
theorem firstL_spec {js : List S182} (b : Bool) (hk : js.Pairwise keyNe) : ∀ n, n ≤ js.length →
  (firstL js b n < 0 → ∀ i (hi : i < n) (hl : i < js.length), js[i].f5 ≠ b) ∧
  (0 ≤ firstL js b n → ∃ (o : Nat) (ho : o < js.length), firstL js b n = o ∧ o < n ∧ js[o].f5 = b ∧ ∀ i (hi : i < n) (hl : i < js.length), js[i].f5 = b → i = o ∨ jobAhead js[o] js[i] = true) := by
 intro n
 induction n with
 | zero => intro _; exact ⟨fun _ i hi => by omega, fun h => absurd h (show ¬ (0 : Int) ≤ -1 by decide)⟩
 | succ n ih =>
  intro hn
  obtain ⟨h1, h2⟩ := ih (by omega)
  have hx : js.getD n z182 = js[n] := by rw [List.getD_eq_getElem?_getD, List.getElem?_eq_getElem (by omega), Option.getD_some]
  show ((let o := firstL js b n; let x := js.getD n z182; if (x.f5 == b) = true then (if o < 0 then (n : Int) else if jobAhead x (js.getD o.toNat z182) = true then (n : Int) else o) else o) < 0 → _) ∧ (0 ≤ (let o := firstL js b n; let x := js.getD n z182; if (x.f5 == b) = true then (if o < 0 then (n : Int) else if jobAhead x (js.getD o.toNat z182) = true then (n : Int) else o) else o) → ∃ (o : Nat) (ho : o < js.length), (let o := firstL js b n; let x := js.getD n z182; if (x.f5 == b) = true then (if o < 0 then (n : Int) else if jobAhead x (js.getD o.toNat z182) = true then (n : Int) else o) else o) = o ∧ _)
  rw [hx]
  dsimp only
  by_cases hb : js[n].f5 = b
  ·rw [if_pos (by simpa using hb)]
   by_cases ho : firstL js b n < 0
   ·rw [if_pos ho]
    refine ⟨fun h => by omega, fun _ => ⟨n, by omega, rfl, by omega, hb, fun i hi hl hib => ?_⟩⟩
    by_cases e : i = n
    ·exact .inl e
    ·exact absurd hib (h1 ho i (by omega) hl)
   ·rw [if_neg ho]
    obtain ⟨o, hol, he, hon, hob, hall⟩ := h2 (by omega)
    rw [he, Int.toNat_natCast]
    have hxo : js.getD o z182 = js[o] := by rw [List.getD_eq_getElem?_getD, List.getElem?_eq_getElem hol, Option.getD_some]
    rw [hxo]
    by_cases ha : jobAhead js[n] js[o] = true
    ·rw [if_pos ha]
     refine ⟨fun h => by omega, fun _ => ⟨n, by omega, rfl, by omega, hb, fun i hi hl hib => ?_⟩⟩
     by_cases e : i = n
     ·exact .inl e
     ·rcases hall i (by omega) hl hib with rfl | h
      ·exact .inr ha
      ·exact .inr (ahead_trans ha h)
    ·rw [if_neg ha]
     refine ⟨fun h => by omega, fun _ => ⟨o, hol, rfl, by omega, hob, fun i hi hl hib => ?_⟩⟩
     by_cases e : i = n
     ·subst e
      have hne := (List.pairwise_iff_getElem.1 hk) o i hol hl hon
      rcases ahead_or hne with h | h
      ·exact .inr h
      ·exact absurd h ha
     ·exact hall i (by omega) hl hib
  ·rw [if_neg (by simpa using hb)]
   refine ⟨fun h i hi hl => ?_, fun h => ?_⟩
   ·by_cases e : i = n
    ·subst e; exact hb
    ·exact h1 h i (by omega) hl
   ·obtain ⟨o, hol, he, hon, hob, hall⟩ := h2 h
    refine ⟨o, hol, he, by omega, hob, fun i hi hl hib => ?_⟩
    by_cases e : i = n
    ·subst e; exact absurd hib hb
    ·exact hall i (by omega) hl hib
theorem firstI_neg {js : List S182} {b : Bool} (hk : js.Pairwise keyNe) (h : firstI js b < 0) : ∀ j ∈ js, j.f5 ≠ b := by
 intro j hj
 obtain ⟨i, hi, rfl⟩ := List.mem_iff_getElem.1 hj
 exact (firstL_spec b hk js.length (Nat.le_refl _)).1 h i hi hi
theorem firstI_pos {js : List S182} {b : Bool} (hk : js.Pairwise keyNe) (h : 0 ≤ firstI js b) : ∃ (o : Nat) (ho : o < js.length), firstI js b = o ∧ js[o].f5 = b ∧ ∀ i (hl : i < js.length), js[i].f5 = b → i = o ∨ jobAhead js[o] js[i] = true := by
 obtain ⟨o, ho, h1, _, h2, h3⟩ := (firstL_spec b hk js.length (Nat.le_refl _)).2 h
 exact ⟨o, ho, h1, h2, fun i hl hb => h3 i hl hl hb⟩
theorem choose_spec {l : List S44} {js : List S182} (hA : jobA l js = true) (hne : js ≠ []) : ∃ (c : Nat) (hc : c < js.length), chooseI l js = c ∧
  ((js[c].f5 = true ∧ (∀ i (hi : i < js.length), js[i].f5 = true → i = c ∨ jobAhead js[c] js[i] = true) ∧
   ((∀ i (hi : i < js.length), js[i].f5 = false → jobAhead js[i] js[c] = false) ∨
    ∃ (a : Nat) (ha : a < js.length), js[a].f5 = false ∧ (∀ i (hi : i < js.length), js[i].f5 = false → i = a ∨ jobAhead js[a] js[i] = true) ∧ passB l js[a].f0.toNat (heldJ l js) = false)) ∨
   (js[c].f5 = false ∧ (∀ i (hi : i < js.length), js[i].f5 = false → i = c ∨ jobAhead js[c] js[i] = true) ∧ (∀ i (hi : i < js.length), js[i].f5 = true → jobAhead js[c] js[i] = true) ∧ ((∀ i (hi : i < js.length), js[i].f5 = false) ∨ passB l js[c].f0.toNat (heldJ l js) = true))) := by
 have hk := (jobA_iff2.1 hA).2.2.2
 have hh : jobHeld l js = heldJ l js := by unfold jobHeld; rw [if_pos hA]
 have gD : ∀ (i : Nat) (hi : i < js.length), js.getD ((i : Nat) : Int).toNat z182 = js[i] := fun i hi => by
  rw [Int.toNat_natCast, List.getD_eq_getElem?_getD, List.getElem?_eq_getElem hi, Option.getD_some]
 unfold chooseI
 rw [if_neg (by simp [hA]), hh]
 by_cases h0 : firstI js false < 0
 ·rw [if_pos h0]
  have hn := firstI_neg hk h0
  have hall : ∀ i (hi : i < js.length), js[i].f5 = true := fun i hi => by
   have := hn js[i] (List.getElem_mem hi); simpa using this
  by_cases h1 : firstI js true < 0
  ·exfalso
   obtain ⟨j, hj⟩ := List.exists_mem_of_ne_nil js hne
   have g1 := hn j hj
   have g2 := firstI_neg hk h1 j hj
   cases hf : j.f5 <;> simp [hf] at g1 g2
  ·obtain ⟨c, hc, e, hb, hf⟩ := firstI_pos hk (show 0 ≤ firstI js true by omega)
   exact ⟨c, hc, e, .inl ⟨hb, hf, .inl (fun i hi h => by rw [hall i hi] at h; exact absurd h (by decide))⟩⟩
 ·rw [if_neg h0]
  obtain ⟨a, ha, ea, hab, haf⟩ := firstI_pos hk (show 0 ≤ firstI js false by omega)
  by_cases h1 : firstI js true < 0
  ·rw [if_pos h1]
   have hn := firstI_neg hk h1
   have hall : ∀ i (hi : i < js.length), js[i].f5 = false := fun i hi => by
    have := hn js[i] (List.getElem_mem hi); simpa using this
   exact ⟨a, ha, ea, .inr ⟨hab, haf, fun i hi h => by rw [hall i hi] at h; exact absurd h (by decide), .inl hall⟩⟩
  ·rw [if_neg h1]
   obtain ⟨c, hc, ec, hcb, hcf⟩ := firstI_pos hk (show 0 ≤ firstI js true by omega)
   rw [ea, ec, gD a ha, gD c hc]
   by_cases h2 : jobAhead js[a] js[c] = false
   ·rw [if_pos h2]
    refine ⟨c, hc, rfl, .inl ⟨hcb, hcf, .inl (fun i hi hb => ?_)⟩⟩
    rcases haf i hi hb with rfl | h
    ·exact h2
    ·cases h3 : jobAhead js[i] js[c] with
     | false => rfl
     | true => rw [ahead_trans h h3] at h2; exact absurd h2 (by decide)
   ·rw [if_neg h2]
    by_cases h3 : passB l js[a].f0.toNat (heldJ l js) = true
    ·rw [if_pos h3]
     refine ⟨a, ha, rfl, .inr ⟨hab, haf, fun i hi hb => ?_, .inr h3⟩⟩
     have h2' : jobAhead js[a] js[c] = true := by simpa using h2
     rcases hcf i hi hb with rfl | h
     ·exact h2'
     ·exact ahead_trans h2' h
    ·rw [if_neg h3]
     exact ⟨c, hc, rfl, .inl ⟨hcb, hcf, .inr ⟨a, ha, hab, haf, by simpa using h3⟩⟩⟩
theorem mostI_le {α : Type} (f : α → Int) (l : List α) (m : Int) : mostI f l ≤ m ↔ 0 ≤ m ∧ ∀ x ∈ l, f x ≤ m := by
 have hg : ∀ (l : List α) (a : Int), l.foldl (fun m x => mx m (f x)) a ≤ m ↔ a ≤ m ∧ ∀ x ∈ l, f x ≤ m := by
  intro l
  induction l with
  | nil => intro a; simp
  | cons x l ih =>
   intro a
   rw [List.foldl_cons, ih]
   have hm : mx a (f x) ≤ m ↔ a ≤ m ∧ f x ≤ m := by unfold mx; split <;> omega
   rw [hm]
   simp only [List.mem_cons, forall_eq_or_imp, and_assoc]
 exact hg l 0
theorem heldJ_mem {l : List S44} {js : List S182} {r : Int} : r ∈ heldJ l js ↔ ∃ j ∈ js, r ∈ heldT (l.getD j.f0.toNat z44) j.f4 := by
 induction js with
 | nil => simp [heldJ]
 | cons j js ih => rw [heldJ, List.mem_append, ih]; simp
theorem pass_true {l : List S44} {js : List S182} {i : Nat} : passB l i (heldJ l js) = true ↔ (∀ j ∈ js, ∀ r ∈ heldT (l.getD j.f0.toNat z44) j.f4, ceilI l r < ofI l i) ∧ 0 < ofI l i := by
 unfold passB
 rw [decide_eq_true_eq]
 have h := mostI_le (ceilI l) (heldJ l js) (ofI l i - 1)
 have h2 : heldI l (heldJ l js) < ofI l i ↔ heldI l (heldJ l js) ≤ ofI l i - 1 := by omega
 rw [h2]
 show mostI (ceilI l) (heldJ l js) ≤ _ ↔ _
 rw [h]
 constructor
 ·rintro ⟨h0, h1⟩
  exact ⟨fun j hj r hr => by have := h1 r (heldJ_mem.2 ⟨j, hj, hr⟩); omega, by omega⟩
 ·rintro ⟨h1, h0⟩
  refine ⟨by omega, fun r hr => ?_⟩
  obtain ⟨j, hj, hr⟩ := heldJ_mem.1 hr
  have := h1 j hj r hr; omega
theorem levI_pos (l : List S44) (t : S44) : 1 ≤ levI l t := by unfold levI; omega
theorem pass_false {l : List S44} {js : List S182} {i : Nat} (h : passB l i (heldJ l js) = false) : ∃ j ∈ js, ∃ r ∈ heldT (l.getD j.f0.toNat z44) j.f4, ofI l i ≤ ceilI l r := by
 by_cases hh : ∃ j ∈ js, ∃ r ∈ heldT (l.getD j.f0.toNat z44) j.f4, ofI l i ≤ ceilI l r
 ·exact hh
 ·exfalso
  have : passB l i (heldJ l js) = true := pass_true.2 ⟨fun j hj r hr => by
   by_cases hc : ceilI l r < ofI l i
   ·exact hc
   ·exact absurd ⟨j, hj, r, hr, by omega⟩ hh, by have := levI_pos l (l.getD i z44); unfold ofI; omega⟩
  rw [this] at h; exact absurd h (by decide)
theorem heldT_mem {t : S44} (ht : taskR t = true) {h r : Int} : r ∈ heldT t h ↔ ∃ s ∈ t.f3, s.f1 < h ∧ h < s.f1 + s.f2 ∧ s.f0 = r := by
 unfold heldT
 rw [if_pos ht]
 unfold heldL
 rw [List.mem_map]
 constructor
 ·rintro ⟨s, hs, rfl⟩
  rw [List.mem_filter] at hs
  have h2 : s.f1 < h ∧ h < s.f1 + s.f2 := by simpa [holdS] using hs.2
  exact ⟨s, hs.1, h2.1, h2.2, rfl⟩
 ·rintro ⟨s, hs, h1, h2, rfl⟩
  exact ⟨s, List.mem_filter.2 ⟨hs, by simpa [holdS] using ⟨h1, h2⟩⟩, rfl⟩
theorem levelN_lt {l : List S44} {t u : S44} (ht : t ∈ l) (h : u.f1 < t.f1) : levI l t < levI l u := by
 unfold levI levelN
 have hsub : ∀ (k : List S44), (k.filter fun x => decide (t.f1 < x.f1)).length ≤ (k.filter fun x => decide (u.f1 < x.f1)).length ∧ (t ∈ k → (k.filter fun x => decide (t.f1 < x.f1)).length < (k.filter fun x => decide (u.f1 < x.f1)).length) := by
  intro k
  induction k with
  | nil => exact ⟨Nat.le_refl _, fun h => by simp at h⟩
  | cons x k ih =>
   obtain ⟨i1, i2⟩ := ih
   by_cases c1 : t.f1 < x.f1
   ·have c2 : u.f1 < x.f1 := by omega
    rw [List.filter_cons_of_pos (by simpa using c1), List.filter_cons_of_pos (by simpa using c2), List.length_cons, List.length_cons]
    refine ⟨by omega, fun hm => ?_⟩
    rcases List.mem_cons.1 hm with rfl | hm
    ·omega
    ·have := i2 hm; omega
   ·rw [List.filter_cons_of_neg (by simpa using c1)]
    by_cases c2 : u.f1 < x.f1
    ·rw [List.filter_cons_of_pos (by simpa using c2), List.length_cons]
     exact ⟨by omega, fun _ => by omega⟩
    ·rw [List.filter_cons_of_neg (by simpa using c2)]
     refine ⟨i1, fun hm => ?_⟩
     rcases List.mem_cons.1 hm with rfl | hm
     ·omega
     ·exact i2 hm
 have := (hsub l).2 ht
 omega
theorem ceil_user {l : List S44} {r : Int} {m : Int} (hm : 1 ≤ m) (h : m ≤ ceilI l r) : ∃ u ∈ l, usesT u r = true ∧ m ≤ levI l u := by
 by_cases hh : ∃ u ∈ l, usesT u r = true ∧ m ≤ levI l u
 ·exact hh
 ·exfalso
  have : ceilI l r ≤ m - 1 := (mostI_le (ceil1 l r) l (m - 1)).2 ⟨by omega, fun u hu => by
   unfold ceil1
   split
   ·rename_i hc
    by_cases h2 : levI l u ≤ m - 1
    ·exact h2
    ·exact absurd ⟨u, hu, hc, by omega⟩ hh
   ·omega⟩
  omega
theorem ceil_ge {l : List S44} {r : Int} {u : S44} (hu : u ∈ l) (h : usesT u r = true) : levI l u ≤ ceilI l r := by
 have := ((mostI_le (ceil1 l r) l (ceilI l r)).1 (Int.le_refl _)).2 u hu
 unfold ceil1 at this
 rwa [if_pos h] at this
structure Bl (l : List S44) (t : Int) (x : S44) (s : S89) : Prop where
 hx : x ∈ l
 hd : t < x.f1
 hs : s ∈ x.f3
 hu : shB l t s.f0 = true
theorem look_le (l : List S44) (t : Int) (m a : Int) (k : List S89) : k.foldl (lookI l t) a ≤ m ↔ a ≤ m ∧ ∀ s ∈ k, shB l t s.f0 = true → s.f2 ≤ m ∨ s.f2 ≤ a := by
 induction k generalizing a with
 | nil => simp
 | cons s k ih =>
  rw [List.foldl_cons, ih]
  have hl : lookI l t a s = if a < s.f2 ∧ shB l t s.f0 = true then s.f2 else a := by unfold lookI; simp
  rw [hl]
  by_cases c : a < s.f2 ∧ shB l t s.f0 = true
  ·rw [if_pos c]
   constructor
   ·rintro ⟨h1, h2⟩
    refine ⟨by omega, fun x hx hs => ?_⟩
    rcases List.mem_cons.1 hx with rfl | hx
    ·exact .inl h1
    ·rcases h2 x hx hs with h | h
     ·exact .inl h
     ·exact .inl (by omega)
   ·rintro ⟨h1, h2⟩
    have hs1 : s.f2 ≤ m := (h2 s (List.mem_cons_self ..) c.2).elim id (fun h => by omega)
    refine ⟨hs1, fun x hx hs => ?_⟩
    rcases h2 x (List.mem_cons_of_mem _ hx) hs with h | h
    ·exact .inl h
    ·exact .inl (by omega)
  ·rw [if_neg c]
   constructor
   ·rintro ⟨h1, h2⟩
    refine ⟨h1, fun x hx hs => ?_⟩
    rcases List.mem_cons.1 hx with rfl | hx
    ·exact .inr (by
      by_cases h : a < x.f2
      ·exact absurd ⟨h, hs⟩ c
      ·omega)
    ·exact h2 x hx hs
   ·rintro ⟨h1, h2⟩
    exact ⟨h1, fun x hx hs => h2 x (List.mem_cons_of_mem _ hx) hs⟩
theorem blk_le {l : List S44} {t m : Int} : blkI l t ≤ m ↔ 0 ≤ m ∧ ∀ x s, Bl l t x s → s.f2 ≤ m := by
 have hg : ∀ (k : List S44) (a : Int), k.foldl (blk1 l t) a ≤ m ↔ a ≤ m ∧ ∀ x ∈ k, t < x.f1 → ∀ s ∈ x.f3, shB l t s.f0 = true → s.f2 ≤ m := by
  intro k
  induction k with
  | nil => intro a; simp
  | cons x k ih =>
   intro a
   rw [List.foldl_cons, ih]
   have hb : blk1 l t a x ≤ m ↔ a ≤ m ∧ (t < x.f1 → ∀ s ∈ x.f3, shB l t s.f0 = true → s.f2 ≤ m) := by
    unfold blk1
    by_cases c : x.f1 ≤ t
    ·rw [if_pos c]
     exact ⟨fun h => ⟨h, fun h2 => by omega⟩, fun h => h.1⟩
    ·rw [if_neg c, look_le]
     constructor
     ·rintro ⟨h1, h2⟩
      exact ⟨h1, fun _ s hs hu => by rcases h2 s hs hu with h | h <;> omega⟩
     ·rintro ⟨h1, h2⟩
      exact ⟨h1, fun s hs hu => .inl (h2 (by omega) s hs hu)⟩
   rw [hb]
   simp only [List.mem_cons, forall_eq_or_imp, and_assoc]
 refine (hg l 0).trans ⟨fun h => ⟨h.1, fun x s hb => h.2 x hb.hx hb.hd s hb.hs hb.hu⟩, fun h => ⟨h.1, fun x hx hd s hs hu => h.2 x s ⟨hx, hd, hs, hu⟩⟩⟩
theorem blk_ge {l : List S44} {t : Int} {x : S44} {s : S89} (h : Bl l t x s) : s.f2 ≤ blkI l t := (blk_le.1 (Int.le_refl _)).2 x s h
theorem blk_0 (l : List S44) (t : Int) : 0 ≤ blkI l t := (blk_le.1 (Int.le_refl _)).1
theorem sh_iff {l : List S44} {t r : Int} : shB l t r = true ↔ ∃ u ∈ l, u.f1 ≤ t ∧ usesT u r = true := by simp [shB]
theorem sh_mono {l l' : List S44} (h : ∀ x ∈ l, x ∈ l') {t r : Int} (hs : shB l t r = true) : shB l' t r = true := by
 obtain ⟨u, hu, h1⟩ := sh_iff.1 hs
 exact sh_iff.2 ⟨u, h u hu, h1⟩
theorem blk_mono {l l' : List S44} (h : ∀ x ∈ l, x ∈ l') (t : Int) : blkI l t ≤ blkI l' t :=
 blk_le.2 ⟨blk_0 _ _, fun x s hb => blk_ge ⟨h x hb.hx, hb.hd, hb.hs, sh_mono h hb.hu⟩⟩
theorem jobsN_0 {x : S44} (hx : taskR x = true) (t : Int) : 0 ≤ jobsN x t := by
 have hx := taskR_own hx
 unfold jobsN
 split
 ·exact Int.le_refl _
 ·have : 0 ≤ (t - x.f1) / x.f2 := Int.ediv_nonneg (by omega) (by omega)
  omega
theorem sumI_sub {α : Type} {f : α → Int} {l l' : List α} (hs : l.Sublist l') (h : ∀ x ∈ l', 0 ≤ f x) : sumI f l ≤ sumI f l' := by
 induction hs with
 | slnil => exact Int.le_refl _
 | cons a hs ih => rw [sumI_cons]; have := h a (List.mem_cons_self ..); have := ih (fun x hx => h x (List.mem_cons_of_mem _ hx)); omega
 | cons_cons a hs ih => rw [sumI_cons, sumI_cons]; have := ih (fun x hx => h x (List.mem_cons_of_mem _ hx)); omega
theorem fit_sub {l l' : List S44} {f : S85} (hs : l.Sublist l') (hT : ∀ x ∈ l', taskR x = true) (h : FitA l' f) : FitA l f := by
 intro t
 have h1 := h t
 have h2 : demI l t ≤ demI l' t := by
  rw [demI_sum, demI_sum]
  exact sumI_sub hs (fun x hx => Int.mul_nonneg (by have := taskR_own (hT x hx); omega) (jobsN_0 (hT x hx) _))
 have h3 := blk_mono (fun x hx => hs.subset hx) (t : Int) (l := l) (l' := l')
 unfold needI at h1 ⊢
 omega
theorem secs_nest {t : S44} (ht : taskR t = true) {a b : S89} (ha : a ∈ t.f3) (hb : b ∈ t.f3) : a.f1 + a.f2 ≤ b.f1 ∨ b.f1 + b.f2 ≤ a.f1 ∨ (a.f1 ≤ b.f1 ∧ b.f1 + b.f2 ≤ a.f1 + a.f2) ∨ (b.f1 ≤ a.f1 ∧ a.f1 + a.f2 ≤ b.f1 + b.f2) := by
 obtain ⟨i, hi, rfl⟩ := List.mem_iff_getElem.1 ha
 obtain ⟨j, hj, rfl⟩ := List.mem_iff_getElem.1 hb
 have hR : secsR t.f0 t.f3 = true := by simp only [taskR, Bool.and_eq_true] at ht; exact ht.2
 unfold secsR at hR
 rw [List.all_eq_true] at hR
 have key : ∀ (i j : Nat) (hi : i < t.f3.length) (hj : j < t.f3.length), i < j → t.f3[j].f1 ≥ t.f3[i].f1 + t.f3[i].f2 ∨ (t.f3[j].f1 ≥ t.f3[i].f1 ∧ t.f3[j].f1 + t.f3[j].f2 ≤ t.f3[i].f1 + t.f3[i].f2) := by
  intro i j hi hj hij
  have h := hR j (List.mem_range.2 hj)
  unfold secOk at h
  rw [Bool.and_eq_true, List.all_eq_true] at h
  have hgj : t.f3.getD j z89 = t.f3[j] := by rw [List.getD_eq_getElem?_getD, List.getElem?_eq_getElem hj, Option.getD_some]
  have h2 := h.2 t.f3[i] (List.mem_iff_getElem.2 ⟨i, by rw [List.length_take]; omega, by rw [List.getElem_take]⟩)
  rw [hgj] at h2
  unfold fitsT at h2
  rw [Bool.or_eq_true, decide_eq_true_eq, decide_eq_true_eq] at h2
  rcases h2 with h2 | h2
  ·exact .inl h2
  ·exact .inr ⟨h2.1, h2.2.1⟩
 by_cases h : i < j
 ·rcases key i j hi hj h with h | h
  ·exact .inl h
  ·exact .inr (.inr (.inl h))
 ·by_cases h2 : j < i
  ·rcases key j i hj hi h2 with h | h
   ·exact .inr (.inl h)
   ·exact .inr (.inr (.inr h))
  ·obtain rfl : i = j := by omega
   exact .inr (.inr (.inl ⟨Int.le_refl _, Int.le_refl _⟩))
abbrev tk (l : List S44) (j : S182) : S44 := l.getD j.f0.toNat z44
def restW (l : List S44) (j : S182) : Int := (tk l j).f0 - j.f4
def workI (l : List S44) (d : Int) (js : List S182) : Int := sumI (restW l) (js.filter (fun j => decide (j.f2 ≤ d)))
def relI (l : List S44) (n : Nat → Nat) : Int := sumI (fun i => (l.getD i z44).f0 * (n i : Int)) (List.range l.length)
def cnt (g : Nat → Bool) (a b : Nat) : Nat := ((List.range (b - a)).filter (fun k => g (a + k))).length
theorem cnt_self (g : Nat → Bool) (a : Nat) : cnt g a a = 0 := by unfold cnt; rw [Nat.sub_self]; rfl
theorem cnt_succ (g : Nat → Bool) {a b : Nat} (h : a ≤ b) : cnt g a (b + 1) = cnt g a b + (if g b = true then 1 else 0) := by
 unfold cnt
 rw [show b + 1 - a = (b - a) + 1 by omega, List.range_succ, List.filter_append, List.length_append]
 congr 1
 by_cases hg : g b = true
 ·rw [if_pos hg, List.filter_cons_of_pos (by rw [show a + (b - a) = b by omega]; exact hg)]; rfl
 ·rw [if_neg hg, List.filter_cons_of_neg (by rw [show a + (b - a) = b by omega]; exact hg)]; rfl
theorem sum_range {α : Type} (f : α → Int) (z : α) (l : List α) : sumI f l = sumI (fun i => f (l.getD i z)) (List.range l.length) := by
 unfold sumI
 congr 1
 refine List.ext_getElem (by simp) (fun i h1 h2 => ?_)
 rw [List.getElem_map, List.getElem_map, List.getElem_range, List.getD_eq_getElem?_getD, List.getElem?_eq_getElem (by simpa using h1), Option.getD_some]
structure Str (l : List S44) (last : List Int) (js : List S182) (d : Int) (t0 : Nat) (b : Int) (n : Nat → Nat) (G : Int) : Prop where
 a1 : ∀ j ∈ js, j.f2 ≤ d → (t0 : Int) ≤ j.f1
 a2 : ∀ j ∈ js, d < j.f2 → j.f5 = true → j.f1 < (t0 : Int)
 w : workI l d js + G ≤ relI l n + b
 c : ∀ i, i < l.length → 1 ≤ n i → (t0 : Int) + ((n i : Int) - 1) * (l.getD i z44).f2 + (l.getD i z44).f1 ≤ d ∧ (t0 : Int) + ((n i : Int) - 1) * (l.getD i z44).f2 ≤ last.getD i (-1)
 b1 : b ≤ blkI l (d - t0)
 i1 : ∀ M ∈ js, M.f5 = true → d < M.f2 → ∀ s ∈ (tk l M).f3, s.f1 < M.f4 → M.f4 < s.f1 + s.f2 → shB l (d - t0) s.f0 = true → b + (s.f1 + s.f2 - M.f4) ≤ blkI l (d - t0)
theorem getD_task {l : List S44} (hT : ∀ t ∈ l, taskR t = true) {i : Nat} (hi : i < l.length) : taskR (l.getD i z44) = true ∧ l.getD i z44 ∈ l := by
 rw [List.getD_eq_getElem?_getD, List.getElem?_eq_getElem hi, Option.getD_some]
 exact ⟨hT _ (List.getElem_mem hi), List.getElem_mem hi⟩
structure JF (l : List S44) (j : S182) : Prop where
 i0 : 0 ≤ j.f0
 i1 : j.f0.toNat < l.length
 r0 : 0 ≤ j.f1
 due : j.f2 = j.f1 + (tk l j).f1
 h0 : 0 ≤ j.f4
 h1 : j.f4 < (tk l j).f0
 hb : j.f5 = true ∨ j.f4 = 0
 ht : taskR (tk l j) = true
 hm : tk l j ∈ l
theorem jf {l : List S44} {js : List S182} (h : jobA l js = true) {j : S182} (hj : j ∈ js) : JF l j := by
 obtain ⟨hT, -, hJ, -⟩ := jobA_iff2.1 h
 obtain ⟨⟨h0, h1, h2, -⟩, h3⟩ := jobR_iff.1 (hJ j hj)
 obtain ⟨e1, -, -, e4, e5, -, e6⟩ := jobT_iff.1 h3
 have ht := getD_task (taskA_iff.1 hT).1 (show j.f0.toNat < l.length by omega)
 exact ⟨h0, by omega, h2, e1, e4, e5, e6, ht.1, ht.2⟩
theorem rest_pos {l : List S44} {js : List S182} (h : jobA l js = true) {j : S182} (hj : j ∈ js) : 1 ≤ restW l j := by
 have := (jf h hj).h1; unfold restW; omega
theorem work_none {l : List S44} {d : Int} {js : List S182} (h : ∀ j ∈ js, d < j.f2) : workI l d js = 0 := by
 unfold workI
 rw [List.filter_eq_nil_iff.2 (fun j hj => by have := h j hj; simp; omega)]; rfl
theorem work_pos {l : List S44} {d : Int} {js : List S182} (hA : jobA l js = true) {j : S182} (hj : j ∈ js) (hd : j.f2 ≤ d) : 1 ≤ workI l d js := by
 have key : ∀ k : List S182, (∀ x ∈ k, 1 ≤ restW l x) → j ∈ k → 1 ≤ sumI (restW l) k := by
  intro k
  induction k with
  | nil => intro _ h; simp at h
  | cons a k ih =>
   intro h1 h2
   rw [sumI_cons]
   have ha := h1 a (List.mem_cons_self ..)
   have hk : 0 ≤ sumI (restW l) k := sumI_nonneg (fun x hx => by have := h1 x (List.mem_cons_of_mem _ hx); omega)
   omega
 exact key _ (fun x hx => rest_pos hA (List.mem_filter.1 hx).1) (List.mem_filter.2 ⟨hj, by simpa using hd⟩)
theorem str_start {l : List S44} {js : List S182} (hA : jobA l js = true) (last : List Int) (d : Int) (now : Nat) (hn : ∀ j ∈ js, j.f1 < (now : Int)) (h : ∀ j ∈ js, d < j.f2) : Str l last js d now 0 (fun _ => 0) 0 := by
 refine ⟨fun j hj hd => by have := h j hj; omega, fun j hj _ _ => hn j hj, ?_, fun i _ h => by omega, blk_0 _ _, fun M hM hb hd s hs h1 h2 h3 => ?_⟩
 ·rw [work_none h]
  have : 0 ≤ relI l (fun _ => 0) := sumI_nonneg (fun i _ => by simp)
  omega
 ·have f := jf hA hM
  have hr := hn M hM
  have := blk_ge (l := l) (t := d - now) (x := tk l M) (s := s) ⟨f.hm, by have := f.due; omega, hs, h3⟩
  omega
theorem rel_le {l : List S44} {last : List Int} {js : List S182} {d : Int} {t0 : Nat} {b G : Int} {n : Nat → Nat} (hT : ∀ t ∈ l, taskR t = true) (h : Str l last js d t0 b n G) : relI l n ≤ demI l (d - t0) := by
 rw [demI_sum, sum_range _ z44]
 refine sumI_le (fun i hi => ?_)
 have hi := List.mem_range.1 hi
 obtain ⟨ht, -⟩ := getD_task hT hi
 have ho := taskR_own ht
 refine Int.mul_le_mul_of_nonneg_left ?_ (by omega)
 by_cases hz : n i = 0
 ·rw [hz]; exact jobsN_0 ht _
 ·obtain ⟨h1, -⟩ := h.c i hi (by omega)
  unfold jobsN
  have hp : 0 ≤ ((n i : Int) - 1) * (l.getD i z44).f2 := Int.mul_nonneg (by omega) (by omega)
  rw [if_neg (by omega)]
  have : (n i : Int) - 1 ≤ (d - t0 - (l.getD i z44).f1) / (l.getD i z44).f2 := (Int.le_ediv_iff_mul_le (by omega)).2 (by omega)
  omega
theorem no_miss {l : List S44} {last : List Int} {js : List S182} {f : S85} {g : Nat → Bool} {now t0 : Nat} {b : Int} {n : Nat → Nat} (hA : jobA l js = true) (hF : FitA l f) (hS : ∀ a x : Nat, supI f x ≤ cnt g a (a + x)) (h0 : t0 ≤ now)
  (h : Str l last js now t0 b n (cnt g t0 now)) : ∀ j ∈ js, (now : Int) < j.f2 := by
 intro j hj
 by_cases hd : (now : Int) < j.f2
 ·exact hd
 ·exfalso
  have hw := work_pos hA hj (show j.f2 ≤ (now : Int) by omega)
  have hr := rel_le (taskA_iff.1 (jobA_iff2.1 hA).1).1 h
  have hs := hS t0 (now - t0)
  rw [show t0 + (now - t0) = now by omega] at hs
  have hf := hF (now - t0)
  have e : ((now - t0 : Nat) : Int) = (now : Int) - t0 := by omega
  rw [e] at hf hs
  unfold needI at hf
  have := h.w
  have := h.b1
  omega
theorem getD_appT {l : List S44} (r : List S44) {j : S182} (h : j.f0.toNat < l.length) : tk (l ++ r) j = tk l j := getD_app l r _ _ h
theorem work_congr {l l' : List S44} {d : Int} {js : List S182} (h : ∀ j ∈ js, tk l' j = tk l j) : workI l' d js = workI l d js := by
 unfold workI
 exact sumI_congr (fun j hj => by unfold restW; rw [h j (List.mem_filter.1 hj).1])
theorem str_add {l : List S44} {last : List Int} {js : List S182} {d : Int} {t0 : Nat} {b G : Int} {n : Nat → Nat} (hA : jobA l js = true) (hl : last.length = l.length) (t : S44) (hb : ∀ j ∈ js, j.f5 = false) (h : Str l last js d t0 b n G) :
  Str (l ++ [t]) (last ++ [-1]) js d t0 b (fun i => if i < l.length then n i else 0) G := by
 refine ⟨h.a1, h.a2, ?_, fun i hi h1 => ?_, Int.le_trans h.b1 (blk_mono (fun x hx => List.mem_append_left _ hx) _), fun M hM hMb => by rw [hb M hM] at hMb; exact absurd hMb (by decide)⟩
 ·rw [work_congr (fun j hj => getD_appT [t] (jf hA hj).i1)]
  have e : relI (l ++ [t]) (fun i => if i < l.length then n i else 0) = relI l n := by
   unfold relI
   rw [List.length_append, List.length_singleton, List.range_succ, sumI_append, sumI_cons, sumI_nil]
   have e1 : sumI (fun i => ((l ++ [t]).getD i z44).f0 * ((if i < l.length then n i else 0 : Nat) : Int)) (List.range l.length) = sumI (fun i => (l.getD i z44).f0 * (n i : Int)) (List.range l.length) :=
    sumI_congr (fun i hi => by
     have := List.mem_range.1 hi
     rw [getD_app _ _ _ _ this, if_pos this])
   rw [e1]
   simp
  rw [e]; exact h.w
 ·by_cases c : i < l.length
  ·rw [if_pos c] at h1 ⊢
   rw [getD_app _ _ _ _ c, getD_app _ _ _ _ (by omega)]
   exact h.c i c h1
  ·rw [if_neg c] at h1; omega
theorem rel_bump {l : List S44} {n : Nat → Nat} {i : Nat} (hi : i < l.length) : relI l (fun k => if k = i then n k + 1 else n k) = relI l n + (l.getD i z44).f0 := by
 unfold relI
 have key : ∀ m, sumI (fun k => (l.getD k z44).f0 * ((if k = i then n k + 1 else n k : Nat) : Int)) (List.range m) = sumI (fun k => (l.getD k z44).f0 * (n k : Int)) (List.range m) + (if i < m then (l.getD i z44).f0 else 0) := by
  intro m
  induction m with
  | zero => simp [sumI]
  | succ m ih =>
   rw [List.range_succ, sumI_append, sumI_append, ih, sumI_cons, sumI_cons, sumI_nil, sumI_nil]
   by_cases c : m = i
   ·subst c
    rw [if_pos rfl, if_neg (Nat.lt_irrefl _), if_pos (by omega), Int.natCast_add, Int.mul_add]
    simp; omega
   ·rw [if_neg c]
    by_cases c2 : i < m
    ·rw [if_pos c2, if_pos (by omega)]; omega
    ·rw [if_neg c2, if_neg (by omega)]; omega
 rw [key, if_pos hi]
theorem getD_setI (l : List Int) (i k : Nat) (v z : Int) (hi : i < l.length) : (l.set i v).getD k z = if k = i then v else l.getD k z := by
 rw [gset]
 by_cases h : k = i
 ·rw [if_pos ⟨h, hi⟩, if_pos h]
 ·rw [if_neg (fun hh => h hh.1), if_neg h]
theorem str_rel {l : List S44} {last : List Int} {js : List S182} {d : Int} {t0 now : Nat} {b G : Int} {n : Nat → Nat} (hT : ∀ t ∈ l, taskR t = true) (hl : last.length = l.length) {i : Nat} (hi : i < l.length) (want : Int) (h0 : t0 ≤ now)
  (he : earlyB (last.getD i (-1)) now (l.getD i z44).f2 = false) (hla : last.getD i (-1) ≤ now) (h : Str l last js d t0 b n G) :
  ∃ n', Str l (last.set i now) (js ++ [⟨i, now, now + (l.getD i z44).f1, want, 0, false⟩]) d t0 b n' G := by
 obtain ⟨ht, -⟩ := getD_task hT hi
 have ho := taskR_own ht
 have he' : last.getD i (-1) = -1 ∨ last.getD i (-1) + (l.getD i z44).f2 ≤ now := by
  unfold earlyB at he
  rw [decide_eq_false_iff_not] at he
  by_cases c : last.getD i (-1) = -1
  ·exact .inl c
  ·refine .inr ?_
   by_cases c2 : (now : Int) < last.getD i (-1) + (l.getD i z44).f2
   ·exact absurd ⟨c, c2⟩ he
   ·omega
 have hnx : (t0 : Int) + (n i : Int) * (l.getD i z44).f2 ≤ now := by
  by_cases hz : n i = 0
  ·rw [hz]; simp; omega
  ·obtain ⟨-, h2⟩ := h.c i hi (by omega)
   rw [Int.sub_mul, Int.one_mul] at h2
   have hp : 0 ≤ ((n i : Int) - 1) * (l.getD i z44).f2 := Int.mul_nonneg (by omega) (by omega)
   rw [Int.sub_mul, Int.one_mul] at hp
   rcases he' with e | e
   ·rw [e] at h2; omega
   ·omega
 have a1 : ∀ j ∈ js ++ [⟨(i : Int), (now : Int), now + (l.getD i z44).f1, want, 0, false⟩], j.f2 ≤ d → (t0 : Int) ≤ j.f1 := by
  intro j hj hd
  rcases List.mem_append.1 hj with hj | hj
  ·exact h.a1 j hj hd
  ·rw [List.mem_singleton.1 hj]; show (t0 : Int) ≤ now; omega
 have a2 : ∀ j ∈ js ++ [⟨(i : Int), (now : Int), now + (l.getD i z44).f1, want, 0, false⟩], d < j.f2 → j.f5 = true → j.f1 < (t0 : Int) := by
  intro j hj hd hb
  rcases List.mem_append.1 hj with hj | hj
  ·exact h.a2 j hj hd hb
  ·rw [List.mem_singleton.1 hj] at hb; cases hb
 have i1 : ∀ M ∈ js ++ [⟨(i : Int), (now : Int), now + (l.getD i z44).f1, want, 0, false⟩], M.f5 = true → d < M.f2 → ∀ s ∈ (tk l M).f3, s.f1 < M.f4 → M.f4 < s.f1 + s.f2 → shB l (d - t0) s.f0 = true → b + (s.f1 + s.f2 - M.f4) ≤ blkI l (d - t0) := by
  intro M hM hb
  rcases List.mem_append.1 hM with hM | hM
  ·exact h.i1 M hM hb
  ·rw [List.mem_singleton.1 hM] at hb; cases hb
 by_cases hd : (now : Int) + (l.getD i z44).f1 ≤ d
 ·refine ⟨fun k => if k = i then n k + 1 else n k, a1, a2, ?_, fun k hk h1 => ?_, h.b1, i1⟩
  ·rw [rel_bump hi]
   unfold workI
   rw [List.filter_append, sumI_append, List.filter_cons_of_pos (by simpa using hd), List.filter_nil, sumI_cons, sumI_nil]
   have := h.w
   unfold workI at this
   have e : restW l ⟨(i : Int), (now : Int), now + (l.getD i z44).f1, want, 0, false⟩ = (l.getD i z44).f0 := by
    unfold restW tk; simp
   omega
  ·rw [getD_setI _ _ _ _ _ (by omega)]
   by_cases c : k = i
   ·subst c
    rw [if_pos rfl, if_pos rfl]
    rw [show (((n k + 1 : Nat) : Int) - 1) = (n k : Int) by omega]
    exact ⟨by omega, hnx⟩
   ·rw [if_neg c] at h1 ⊢
    rw [if_neg c]
    exact h.c k hk h1
 ·refine ⟨n, a1, a2, ?_, fun k hk h1 => ?_, h.b1, i1⟩
  ·unfold workI
   rw [List.filter_append, sumI_append, List.filter_cons_of_neg (by simpa using hd), List.filter_nil, sumI_nil]
   have := h.w
   unfold workI at this
   omega
  ·rw [getD_setI _ _ _ _ _ (by omega)]
   obtain ⟨h2, h3⟩ := h.c k hk h1
   refine ⟨h2, ?_⟩
   by_cases c : k = i
   ·subst c; rw [if_pos rfl]; omega
   ·rw [if_neg c]; exact h3
def Srp (l : List S44) (js : List S182) : Prop := ∀ j ∈ js, ∀ k ∈ js, j.f5 = true → k.f5 = true → jobAhead j k = true → ∀ r ∈ heldT (tk l k) k.f4, ceilI l r < ofI l j.f0.toNat
def runT (js : List S182) (c : Nat) (ov : Bool) (K : S182) : List S182 := js.take c ++ (if ov then [] else [had1 K]) ++ js.drop (c + 1)
theorem runT_mem {js : List S182} {c : Nat} (hc : c < js.length) {ov : Bool} {x : S182} (h : x ∈ runT js c ov js[c]) : (∃ (i : Nat) (hi : i < js.length), i ≠ c ∧ x = js[i]) ∨ (ov = false ∧ x = had1 js[c]) := by
 unfold runT at h
 rcases List.mem_append.1 h with h | h
 ·rcases List.mem_append.1 h with h | h
  ·obtain ⟨i, hi, rfl⟩ := List.mem_iff_getElem.1 h
   rw [List.length_take] at hi
   exact .inl ⟨i, by omega, by omega, List.getElem_take⟩
  ·cases ov
   ·exact .inr ⟨rfl, List.mem_singleton.1 h⟩
   ·simp at h
 ·obtain ⟨i, hi, rfl⟩ := List.mem_iff_getElem.1 h
  rw [List.length_drop] at hi
  exact .inl ⟨c + 1 + i, by omega, by omega, List.getElem_drop ..⟩
theorem work_app (l : List S44) (d : Int) (a b : List S182) : workI l d (a ++ b) = workI l d a + workI l d b := by
 unfold workI; rw [List.filter_append, sumI_append]
theorem work_one (l : List S44) (d : Int) (x : S182) : workI l d [x] = if x.f2 ≤ d then restW l x else 0 := by
 unfold workI
 by_cases h : x.f2 ≤ d
 ·rw [if_pos h, List.filter_cons_of_pos (by simpa using h), List.filter_nil, sumI_cons, sumI_nil]; omega
 ·rw [if_neg h, List.filter_cons_of_neg (by simpa using h), List.filter_nil, sumI_nil]
theorem work_run {l : List S44} {js : List S182} (hA : jobA l js = true) (d : Int) {c : Nat} (hc : c < js.length) (ov : Bool) : workI l d (runT js c ov js[c]) + (if js[c].f2 ≤ d then 1 else 0) ≤ workI l d js := by
 have e : workI l d js = workI l d (js.take c) + workI l d [js[c]] + workI l d (js.drop (c + 1)) := by
  rw [← work_app, ← work_app]
  congr 1
  rw [List.append_assoc, List.singleton_append, List.getElem_cons_drop, List.take_append_drop]
 have hp := rest_pos hA (List.getElem_mem hc)
 rw [e]
 unfold runT
 rw [work_app, work_app, work_one]
 cases ov
 ·rw [if_neg (by decide), work_one]
  have e1 : (had1 js[c]).f2 = js[c].f2 := rfl
  have e2 : restW l (had1 js[c]) = restW l js[c] - 1 := by show (tk l js[c]).f0 - (js[c].f4 + 1) = (tk l js[c]).f0 - js[c].f4 - 1; omega
  rw [e1, e2]
  split <;> omega
 ·rw [if_pos rfl]
  have : workI l d [] = 0 := rfl
  rw [this]
  split <;> omega
theorem held_begun {l : List S44} {js : List S182} (hA : jobA l js = true) {M : S182} (hM : M ∈ js) {r : Int} (h : r ∈ heldT (tk l M) M.f4) : M.f5 = true ∧ ∃ s ∈ (tk l M).f3, s.f1 < M.f4 ∧ M.f4 < s.f1 + s.f2 ∧ s.f0 = r := by
 have f := jf hA hM
 obtain ⟨s, hs, h1, h2, h3⟩ := (heldT_mem f.ht).1 h
 have := (taskR_sec f.ht hs).2.2.1
 exact ⟨f.hb.resolve_right (by omega), s, hs, h1, h2, h3⟩
theorem str_run {l : List S44} {last : List Int} {js : List S182} {d : Int} {t0 : Nat} {b G : Int} {n : Nat → Nat} (hA : jobA l js = true) (hs : Srp l js) (h : Str l last js d t0 b n G) (hd : ∃ j ∈ js, j.f2 ≤ d)
  {c : Nat} (hc : c < js.length) (ov : Bool)
  (hch : (js[c].f5 = true ∧ (∀ i (hi : i < js.length), js[i].f5 = true → i = c ∨ jobAhead js[c] js[i] = true) ∧
   ((∀ i (hi : i < js.length), js[i].f5 = false → jobAhead js[i] js[c] = false) ∨
    ∃ (a : Nat) (ha : a < js.length), js[a].f5 = false ∧ (∀ i (hi : i < js.length), js[i].f5 = false → i = a ∨ jobAhead js[a] js[i] = true) ∧ passB l js[a].f0.toNat (heldJ l js) = false)) ∨
   (js[c].f5 = false ∧ (∀ i (hi : i < js.length), js[i].f5 = false → i = c ∨ jobAhead js[c] js[i] = true) ∧ (∀ i (hi : i < js.length), js[i].f5 = true → jobAhead js[c] js[i] = true) ∧ ((∀ i (hi : i < js.length), js[i].f5 = false) ∨ passB l js[c].f0.toNat (heldJ l js) = true))) :
  ∃ b', Str l last (runT js c ov js[c]) d t0 b' n (G + 1) := by
 have hw := work_run hA d hc ov
 have hKm := List.getElem_mem hc
 by_cases hK : js[c].f2 ≤ d
 ·rw [if_pos hK] at hw
  refine ⟨b, fun x hx hxd => ?_, fun x hx hxd hb => ?_, by have := h.w; omega, h.c, h.b1, fun M hM hb hMd => ?_⟩
  ·rcases runT_mem hc hx with ⟨i, hi, -, rfl⟩ | ⟨-, rfl⟩
   ·exact h.a1 _ (List.getElem_mem hi) hxd
   ·exact h.a1 js[c] hKm hK
  ·rcases runT_mem hc hx with ⟨i, hi, -, rfl⟩ | ⟨-, rfl⟩
   ·exact h.a2 _ (List.getElem_mem hi) hxd hb
   ·exact absurd hxd (show ¬ d < js[c].f2 by omega)
  ·rcases runT_mem hc hM with ⟨i, hi, -, rfl⟩ | ⟨-, rfl⟩
   ·exact h.i1 _ (List.getElem_mem hi) hb hMd
   ·exact absurd hMd (show ¬ d < js[c].f2 by omega)
 ·rw [if_neg hK] at hw
  obtain ⟨j0, hj0, hd0⟩ := hd
  obtain ⟨i0, hi0, rfl⟩ := List.mem_iff_getElem.1 hj0
  have noA : ∀ (x : S182), x.f2 ≤ d → ¬ jobAhead js[c] x = true := fun x hx hh => by rw [ahead_iff] at hh; omega
  rcases hch with ⟨hKb, hfirst, hrest⟩ | ⟨hKb, hf, hb2, -⟩
  ·have hj0b : js[i0].f5 = false := by
    cases hb : js[i0].f5 with
    | false => rfl
    | true =>
     rcases hfirst i0 hi0 hb with rfl | hh
     ·exact absurd hd0 hK
     ·exact absurd hh (noA _ hd0)
   rcases hrest with hno | ⟨a, ha, hab, haf, hpass⟩
   ·have := hno i0 hi0 hj0b
    have h2 : jobAhead js[i0] js[c] = true := (ahead_iff _ _).2 (.inl (by omega))
    rw [h2] at this; exact absurd this (by decide)
   ·have had : js[a].f2 ≤ d := by
     rcases haf i0 hi0 hj0b with rfl | hh
     ·exact hd0
     ·rw [ahead_iff] at hh; omega
    have fa := jf hA (List.getElem_mem ha)
    have fK := jf hA hKm
    have ra := h.a1 _ (List.getElem_mem ha) had
    have rK := h.a2 _ hKm (by omega) hKb
    have hDK : d - t0 < (tk l js[c]).f1 := by have := fK.due; omega
    have hDa : (tk l js[a]).f1 ≤ d - t0 := by have := fa.due; omega
    have hlv : levI l (tk l js[c]) < levI l (tk l js[a]) := levelN_lt fK.hm (by omega)
    obtain ⟨M, hM, r, hr, hcl⟩ := pass_false hpass
    obtain ⟨hMb, s, hs1, hs2, hs3, hs4⟩ := held_begun hA hM hr
    obtain ⟨m, hm, rfl⟩ := List.mem_iff_getElem.1 hM
    have hmc : m = c := by
     rcases hfirst m hm hMb with e | hh
     ·exact e
     ·exfalso
      have h1 := hs _ hKm _ (List.getElem_mem hm) hKb hMb hh r hr
      have e1 : ofI l js[c].f0.toNat = levI l (tk l js[c]) := rfl
      have e2 : ofI l js[a].f0.toNat = levI l (tk l js[a]) := rfl
      omega
    subst hmc
    have hsh : shB l (d - t0) s.f0 = true := by
     rw [hs4]
     obtain ⟨u, hu, hu1, hu2⟩ := ceil_user (l := l) (r := r) (m := levI l (tk l js[a])) (levI_pos _ _) hcl
     refine sh_iff.2 ⟨u, hu, ?_, hu1⟩
     by_cases hc2 : u.f1 ≤ (tk l js[a]).f1
     ·omega
     ·have := levelN_lt (l := l) (t := u) (u := tk l js[a]) hu (by omega)
      omega
    have hbd := h.i1 _ hKm hKb (by omega) s hs1 hs2 hs3 hsh
    refine ⟨b + 1, fun x hx hxd => ?_, fun x hx hxd hb => ?_, by have := h.w; omega, h.c, by omega, fun M' hM' hb' hMd s' hs1' hs2' hs3' hsh' => ?_⟩
    ·rcases runT_mem hc hx with ⟨i, hi, -, rfl⟩ | ⟨-, rfl⟩
     ·exact h.a1 _ (List.getElem_mem hi) hxd
     ·exact absurd hxd (show ¬ js[m].f2 ≤ d from hK)
    ·rcases runT_mem hc hx with ⟨i, hi, -, rfl⟩ | ⟨-, rfl⟩
     ·exact h.a2 _ (List.getElem_mem hi) hxd hb
     ·exact rK
    ·rcases runT_mem hc hM' with ⟨i, hi, hne, rfl⟩ | ⟨-, rfl⟩
     ·exfalso
      have hah := (hfirst i hi hb').resolve_left hne
      have fi := jf hA (List.getElem_mem hi)
      have h1 := hs _ hKm _ (List.getElem_mem hi) hKb hb' hah s'.f0 ((heldT_mem fi.ht).2 ⟨s', hs1', hs2', hs3', rfl⟩)
      obtain ⟨u, hu, hu1, hu2⟩ := sh_iff.1 hsh'
      have h2 := ceil_ge hu hu2
      have h3 := levelN_lt (l := l) (t := tk l js[m]) (u := u) fK.hm (by omega)
      have e1 : ofI l js[m].f0.toNat = levI l (tk l js[m]) := rfl
      omega
     ·have e4 : (had1 js[m]).f4 = js[m].f4 + 1 := rfl
      rw [e4] at hs2' hs3' ⊢
      have hs1'' : s' ∈ (tk l js[m]).f3 := hs1'
      by_cases hlt : s'.f1 < js[m].f4
      ·have := h.i1 _ hKm hKb (by omega) s' hs1'' hlt (by omega) hsh'
       omega
      ·have := secs_nest fK.ht hs1 hs1''
       have := (taskR_sec fK.ht hs1'').2.2.2.2.1
       omega
  ·exfalso
   cases hb : js[i0].f5 with
   | false =>
    rcases hf i0 hi0 hb with rfl | hh
    ·exact hK hd0
    ·exact noA _ hd0 hh
   | true => exact noA _ hd0 (hb2 i0 hi0 hb)
theorem srp_run {l : List S44} {js : List S182} (hA : jobA l js = true) (hs : Srp l js) {c : Nat} (hc : c < js.length) (ov : Bool)
  (hch : (js[c].f5 = true ∧ (∀ i (hi : i < js.length), js[i].f5 = true → i = c ∨ jobAhead js[c] js[i] = true)) ∨
   (js[c].f5 = false ∧ (∀ i (hi : i < js.length), js[i].f5 = true → jobAhead js[c] js[i] = true) ∧ ((∀ i (hi : i < js.length), js[i].f5 = false) ∨ passB l js[c].f0.toNat (heldJ l js) = true))) :
  Srp l (runT js c ov js[c]) := by
 have hirr : ∀ x : S182, ¬ jobAhead x x = true := fun x hh => by rw [ahead_iff] at hh; omega
 have hKm := List.getElem_mem hc
 intro j hj k hk hjb hkb hah r hr
 rcases runT_mem hc hk with ⟨i, hi, hne, rfl⟩ | ⟨-, rfl⟩
 ·rcases runT_mem hc hj with ⟨i', hi', -, rfl⟩ | ⟨-, rfl⟩
  ·exact hs _ (List.getElem_mem hi') _ (List.getElem_mem hi) hjb hkb hah r hr
  ·rcases hch with ⟨hKb, -⟩ | ⟨hKb, -, hp⟩
   ·exact hs _ hKm _ (List.getElem_mem hi) hKb hkb hah r hr
   ·rcases hp with hp | hp
    ·rw [hp i hi] at hkb; exact absurd hkb (by decide)
    ·exact (pass_true.1 hp).1 _ (List.getElem_mem hi) r hr
 ·exfalso
  rcases runT_mem hc hj with ⟨i', hi', hne, rfl⟩ | ⟨-, rfl⟩
  ·have hah' : jobAhead js[i'] js[c] = true := hah
   rcases hch with ⟨hKb, hf⟩ | ⟨hKb, hf, -⟩
   ·have := ahead_asym ((hf i' hi' hjb).resolve_left hne)
    rw [hah'] at this; exact absurd this (by decide)
   ·have := ahead_asym (hf i' hi' hjb)
    rw [hah'] at this; exact absurd this (by decide)
  ·exact hirr (had1 js[c]) hah
end Go.Proofs.YtmngaagojkihbaaGreat.FTop
