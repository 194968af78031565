/- Contracts of functions that the statement TopAlone reaches, and plain lemmas. No condition. -/
import Derived.Test.YtmngaagojkihbaaGreatZ05
import Derived.Test.YtmngaagojkihbaaGreatZ04
namespace Go.Proofs.YtmngaagojkihbaaGreat.FTop
open Go.RowKit Go.Proofs.YtmngaagojkihbaaGreatW.PrintWords Go.Proofs.YtmngaagojkihbaaGreatW.PrintLast Go.Proofs.YtmngaagojkihbaaGreatW.PrintMore
attribute [local go_sem] max2_int min2_int max_two min_two
set_option linter.unusedVariables false
set_option linter.unusedSimpArgs false
set_option maxHeartbeats 8000000
set_option maxRecDepth 100000
theorem taskR_sec {t : S44} (h : taskR t = true) {s : S89} (hs : s ∈ t.f3) : 0 ≤ s.f0 ∧ s.f0 < 4 ∧ 0 ≤ s.f1 ∧ s.f1 ≤ 200 ∧ 1 ≤ s.f2 ∧ s.f2 ≤ 200 := by
  unfold taskR at h
  rw [Bool.and_eq_true, ownT_iff, secsR_iff] at h
  obtain ⟨i, hi, rfl⟩ := List.getElem_of_mem hs
  have h2 := h.2 i hi
  rw [secOk_iff hi, mayT_iff] at h2
  omega
def holdS (had : Int) (s : S89) : Bool := decide (s.f1 < had ∧ had < s.f1 + s.f2)
def heldL (had : Int) (l : List S89) : List Int := (l.filter (holdS had)).map (fun s => s.f0)
theorem heldL_len (had : Int) (l : List S89) : (heldL had l).length ≤ l.length := by unfold heldL; rw [List.length_map]; exact List.length_filter_le _ _
theorem heldL_snoc (had : Int) (l : List S89) (s : S89) : heldL had (l ++ [s]) = heldL had l ++ if holdS had s then [s.f0] else [] := by
  unfold heldL
  rw [List.filter_append, List.map_append]
  cases hs : holdS had s <;> simp [hs]
def heldT (t : S44) (had : Int) : List Int := if taskR t then heldL had t.f3 else []
theorem task_Held.calls (t : S44) (had : Int) (A : Option Addr) (c : Nat) (w : World) (h : Kd.C k89 w A t.f3.length t.f3) (hlc : t.f3.length ≤ c) : RetI 133 #[vT t A c, .int .i64 had] w (heldT t had) := by
  have hu := Tryz.underlying44
  have hu2 := Tryz.underlying89
  have H := Aside0.mk h
  have hl := h.2.1
  clear h
  cases ho : taskR t with
  | false =>
    have hv := Aside0.mk (show heldT t had = [] by unfold heldT; rw [ho]; rfl)
    generalize heldT t had = r at hv ⊢
    go_enter Tryz.func133, Tryz.ntmps133
    go_wp2_with fail
    refine (task_Right.calls t A c _ (C_alloc H.out _) hlc).mono ?_; rintro e w2 ⟨rfl, hb⟩
    rw [ho]
    go_wp2
    go_ret
    exact ⟨_, rfl, by rw [hv.out]; exact Kd.R_nil _ _ _ _ _, below_step bl1 hb⟩
  | true =>
    have hv := Aside0.mk (show heldT t had = heldL had t.f3 by unfold heldT; rw [ho]; rfl)
    have HS := Aside0.mk (fun s hs => taskR_sec ho (s := s) hs)
    generalize heldT t had = r at hv ⊢
    go_enter Tryz.func133, Tryz.ntmps133
    go_wp2_with fail
    refine (task_Right.calls t A c _ (C_alloc H.out _) hlc).mono ?_; rintro e w2 ⟨rfl, hb⟩
    rw [ho]
    have ho4 : t.f3.length ≤ 4 := by unfold taskR at ho; rw [Bool.and_eq_true, ownT_iff] at ho; exact ho.1.2.2.2.2
    clear ho
    have hB := blk_below (blk_new w _) hb
    have hbA := below_step bl1 hb
    clear hb
    obtain ⟨x0, x1, x2, x3⟩ := bx4 hB
    go_wp2
    clear x0 x1 x2 x3 hB
    go_loopg [5, 14] t.f3.length (fun k v5 v14 wr => ∃ i : Nat, i + k = t.f3.length ∧ v14 = .int .i64 i ∧ RI wr w.heap.size v5 (heldL had (t.f3.take i)) ∧ Below w.heap.size w wr)
    case atStart => exact ⟨0, by omega, rfl, Kd.R_nil _ _ _ _ _, hbA⟩
    case round =>
      clear hbA
      obtain ⟨i, hi, rfl, hR, hb⟩ := hrel
      have HR := Aside0.mk hR
      clear hR
      by_cases ci : i < t.f3.length
      · obtain ⟨ad, s, rfl, hs, h0, h1, h2⟩ := el89 (Kd.C_below H.out hb) i ci
        obtain ⟨-, -, b0, b1, b2, b3⟩ := HS.out s (by rw [← hs.out]; exact List.getElem_mem ci)
        have hq := Aside0.mk (show heldL had (t.f3.take (i + 1)) = heldL had (t.f3.take i) ++ if holdS had s then [s.f0] else [] by rw [List.take_succ_eq_append_getElem ci, heldL_snoc, hs.out])
        have hll : (heldL had (t.f3.take i)).length ≤ 4 := Nat.le_trans (heldL_len _ _) (by rw [List.length_take]; omega)
        have HL := Aside0.mk hll
        clear hll
        by_cases c1 : s.f1 < had
        · by_cases c2 : had < s.f1 + s.f2
          · have hq2 := Aside0.mk (show heldL had (t.f3.take (i + 1)) = heldL had (t.f3.take i) ++ [s.f0] by rw [hq.out, show holdS had s = true from decide_eq_true ⟨c1, c2⟩]; rfl)
            generalize heldL had (t.f3.take i) = xs at HR hq2 HL
            go_wp2_with ((with_reducible refine gate_builtin (b := .append) (xs := #[.tmp 31, .tmp 34]) rfl ?_); at_builtin; refine appI (w0 := w) (xs := xs) (Kd.R_alloc HR.out _) (below_alloc hb _) (by have := HL.out; omega) (h := fun v1 w1 hR1 hb1 => ?_))
            go_roundg (t.f3.length - i - 1)
            case measure => omega
            case rel => exact ⟨i + 1, by omega, by go_num, by rw [hq2.out]; exact hR1, hb1⟩
          · have hq2 := Aside0.mk (show heldL had (t.f3.take (i + 1)) = heldL had (t.f3.take i) by rw [hq.out, show holdS had s = false from decide_eq_false (fun h => c2 h.2)]; simp)
            go_wp2
            go_roundg (t.f3.length - i - 1)
            case measure => omega
            case rel => exact ⟨i + 1, by omega, by go_num, by rw [hq2.out]; exact Kd.R_alloc HR.out _, below_alloc hb _⟩
        · have hq2 := Aside0.mk (show heldL had (t.f3.take (i + 1)) = heldL had (t.f3.take i) by rw [hq.out, show holdS had s = false from decide_eq_false (fun h => c1 h.1)]; simp)
          go_wp2
          go_roundg (t.f3.length - i - 1)
          case measure => omega
          case rel => exact ⟨i + 1, by omega, by go_num, by rw [hq2.out]; exact Kd.R_alloc HR.out _, below_alloc hb _⟩
      · have : i = t.f3.length := by omega
        subst this
        go_wp2
        go_ret
        exact ⟨_, rfl, by rw [hv.out]; have := HR.out; rwa [List.take_length] at this, hb⟩
def job_Held.T7 : Bool × List (List Nat × List Nat) := (true, [([], []), ([], []), ([], []), ([2], [2]), ([1, 3], [1, 3]), ([4], [4]), ([], []), ([6], [6]), ([5, 7], [5, 7]), ([0, 8, 8], [0, 8]), ([9, 9, 0, 1, 2, 3, 4, 5, 6, 7, 8, 9], [0, 9])])
def job_Held.B7 : List Nat := [0, 0, 0, 4, 14, 30, 0, 64, 254, 511, 1023]
theorem job_Held.tab7 : rtab .any (opsOf Tryz.f126 7) = job_Held.T7 := by kernel_rfl
theorem job_Held.bits7 : waitsOk job_Held.T7.2 job_Held.B7 = true := by kernel_rfl
def heldJ (l : List S44) : List S182 → List Int
  | [] => []
  | j :: js => heldT (l.getD j.f0.toNat z44) j.f4 ++ heldJ l js
theorem heldJ_append (l : List S44) (a b : List S182) : heldJ l (a ++ b) = heldJ l a ++ heldJ l b := by
  induction a with
  | nil => rfl
  | cons x a ih => simp [heldJ, ih]
theorem heldT_len (t : S44) (n : Int) : (heldT t n).length ≤ 4 := by
  unfold heldT
  cases h : taskR t with
  | false => simp
  | true =>
    simp only [if_true]
    unfold taskR at h; rw [Bool.and_eq_true, ownT_iff] at h
    exact Nat.le_trans (heldL_len _ _) h.1.2.2.2.2
theorem heldJ_len (l : List S44) (js : List S182) : (heldJ l js).length ≤ 4 * js.length := by
  induction js with
  | nil => simp [heldJ]
  | cons x a ih => simp only [heldJ, List.length_append, List.length_cons]; have := heldT_len (l.getD x.f0.toNat z44) x.f4; omega
theorem jobA_iff {l : List S44} {js : List S182} : jobA l js = true ↔ taskA l = true ∧ js.length ≤ 32 ∧ ∀ i, i < js.length → jobOk l js i = true := by simp [jobA, and_assoc]
theorem jobA_job {l : List S44} {js : List S182} (h : jobA l js = true) {i : Nat} (hi : i < js.length) : jobR l js[i] = true := by
  have := (jobA_iff.1 h).2.2 i hi
  rw [jobOk_iff hi, Bool.and_eq_true] at this
  exact this.1
theorem jobR_task {l : List S44} {j : S182} (h : jobR l j = true) : ∃ i : Nat, j.f0 = i ∧ i < l.length := by
  simp [jobR] at h
  exact ⟨j.f0.toNat, by omega, by omega⟩
def jobHeld (l : List S44) (js : List S182) : List Int := if jobA l js then heldJ l js else []
theorem job_Held.calls (A : Option Addr) (c : Nat) (l : List S44) (B : Option Addr) (d : Nat) (js : List S182) (w : World) (h : Kd.C k44 w A l.length l) (h2 : Kd.C k182 w B js.length js) (hjd : js.length ≤ d) :
    RetI 126 #[.slice A l.length c, .slice B js.length d] w (jobHeld l js) := by
  have hu := Tryz.underlying182
  have hu2 := Tryz.underlying44
  have H := Aside0.mk h
  have H2 := Aside0.mk h2
  have hl := h.2.1
  have hl2 := h2.2.1
  clear h h2
  cases ho : jobA l js with
  | false =>
    have hv := Aside0.mk (show jobHeld l js = [] by unfold jobHeld; rw [ho]; rfl)
    go_enter Tryz.func126, Tryz.ntmps126
    go_wp2_with fail
    refine (job_All.calls A c l B d js _ H.out H2.out hjd).mono ?_; rintro e w2 ⟨rfl, hb⟩
    rw [ho]
    go_wp2
    go_ret
    exact ⟨_, rfl, by rw [hv.out]; exact Kd.R_nil _ _ _ _ _, hb⟩
  | true =>
    have hv := Aside0.mk (show jobHeld l js = heldJ l js by unfold jobHeld; rw [ho]; rfl)
    have HJ := Aside0.mk (fun i hi => jobA_job ho (i := i) hi)
    have hj32 := (jobA_iff.1 ho).2.1
    go_enter Tryz.func126, Tryz.ntmps126
    go_wp2_with fail
    refine (job_All.calls A c l B d js _ H.out H2.out hjd).mono ?_; rintro e w2 ⟨rfl, hbA⟩
    rw [ho]
    clear ho
    go_wp2
    go_loopg [5, 14] js.length (fun k v5 v14 wr => ∃ i : Nat, i + k = js.length ∧ v14 = .int .i64 i ∧ RI wr w.heap.size v5 (heldJ l (js.take i)) ∧ Below w.heap.size w wr)
    case atStart => exact ⟨0, by omega, rfl, Kd.R_nil _ _ _ _ _, hbA⟩
    case round =>
      clear hbA
      obtain ⟨i, hi, rfl, hR, hb⟩ := hrel
      have HR := Aside0.mk hR
      clear hR
      by_cases ci : i < js.length
      · obtain ⟨ad, j, rfl, hj, h0, h1, h2, h3, h4, h5⟩ := el182 (Kd.C_below H2.out hb) i ci
        obtain ⟨p, hp, hpl⟩ := jobR_task (by have := HJ.out i ci; rw [hj.out] at this; exact this)
        have hb' := below_alloc hb (.cells #[.int .i64 j.f0, .int .i64 j.f1, .int .i64 j.f2, .int .i64 j.f3, .int .i64 j.f4, .bool j.f5] 182)
        have hB := blk_new wr (.cells #[.int .i64 j.f0, .int .i64 j.f1, .int .i64 j.f2, .int .i64 j.f3, .int .i64 j.f4, .bool j.f5] 182)
        obtain ⟨s0, s1, s2, s3, s4, s5⟩ := bx6 hB
        obtain ⟨ad2, A3, c3, t, hA2, ht, g0, g1, g2, g3, glc, gC⟩ := el44 (Kd.C_below H.out hb') p hpl
        subst hA2
        have hq := Aside0.mk (show heldJ l (js.take (i + 1)) = heldJ l (js.take i) ++ heldT t j.f4 by
          rw [List.take_succ_eq_append_getElem ci, heldJ_append, hj.out, heldJ, heldJ, List.append_nil, hp, Int.toNat_natCast, List.getD_eq_getElem?_getD, List.getElem?_eq_getElem hpl, Option.getD_some, ht.out])
        have HL := Aside0.mk (show (heldJ l (js.take i)).length ≤ 128 from Nat.le_trans (heldJ_len _ _) (by rw [List.length_take]; omega))
        have HR' := Aside0.mk (show RI (wr.alloc (.cells #[.int .i64 j.f0, .int .i64 j.f1, .int .i64 j.f2, .int .i64 j.f3, .int .i64 j.f4, .bool j.f5] 182)) w.heap.size _ _ from Kd.R_alloc HR.out _)
        rw [hp] at s0 h0 hB hb' HR' gC g0 g1 g2 g3 s4
        generalize heldJ l (js.take i) = xs at HR HR' hq HL
        go_wp2
        refine st_ 11 (fun w' => w'.cell? (⟨wr.heap.size, 0, none⟩) = some (.int .i64 p) ∧ w'.cell? (⟨wr.heap.size, 4, none⟩) = some (.int .i64 j.f4) ∧ Below w.heap.size w w' ∧ RI w' w.heap.size u5 xs ∧ w'.cell? (ad2.add (p * 4)) = some (.int .i64 t.f0) ∧ w'.cell? (⟨(ad2.add (p * 4)).block, (ad2.add (p * 4)).off + 1, none⟩) = some (.int .i64 t.f1) ∧ w'.cell? (⟨(ad2.add (p * 4)).block, (ad2.add (p * 4)).off + 2, none⟩) = some (.int .i64 t.f2) ∧ w'.cell? (⟨(ad2.add (p * 4)).block, (ad2.add (p * 4)).off + 3, none⟩) = some (.slice A3 t.f3.length c3) ∧ k89.C w' A3 t.f3.length t.f3) [9] job_Held.tab7 job_Held.bits7 ⟨s0, s4, below_drew1 hb', Kd.R_drew HR'.out, g0, g1, g2, g3, Kd.C_below gC (below_drew (Below.refl _ _))⟩ (h := fun HT HW hHeld => ?_)
        repeat (first | refine pn_ HT (h := ?_) | refine tn_ HT HW hHeld (h := ?_) | refine zn_ HT (h := ?_))
        refine on_ HT (h := fun K hK => ?_)
        refine cn_ (task_Held.calls t j.f4 A3 c3 _ (hHeld.2.2.2.2.2.2.2.2) glc) (h := fun v3 w3 hv3 => ?_)
        obtain ⟨hR3, hb3⟩ := hv3
        refine hK.out _ _ ⟨be_cell hb3 (hHeld.1), be_cell hb3 (hHeld.2.1), below_step (hHeld.2.2.1) hb3, Kd.R_below (hHeld.2.2.2.1) hb3, be_cell hb3 (hHeld.2.2.2.2.1), be_cell hb3 (hHeld.2.2.2.2.2.1), be_cell hb3 (hHeld.2.2.2.2.2.2.1), be_cell hb3 (hHeld.2.2.2.2.2.2.2.1), Kd.C_below (hHeld.2.2.2.2.2.2.2.2) hb3⟩ (fun hHeld => ?_)
        obtain ⟨B3, d3, rfl, hd3, hC3⟩ := Kd.R_reads hR3
        repeat (first | refine pn_ HT (h := ?_) | refine tn_ HT HW hHeld (h := ?_) | refine zn_ HT (h := ?_))
        refine ln_ HT (h := fun K hK => ?_)
        refine appRI_step (w0 := w) (xs := xs) (ys := heldT t j.f4) (hHeld.2.2.2.1) hC3 (hHeld.2.2.1) (by have := HL.out; have := heldT_len t j.f4; omega) (h := fun v4 w4 hR4 hb4 => ?_)
        refine hK.out _ _ ?_
        repeat (first | refine pn_ HT (h := ?_) | refine zn_ HT (h := ?_))
        refine dn_ HT (h := ?_)
        go_wp2
        go_roundg (js.length - i - 1)
        case measure => omega
        case rel => exact ⟨i + 1, by omega, by go_num, by rw [hq.out]; exact hR4, hb4⟩
      · have : i = js.length := by omega
        subst this
        go_wp2
        go_ret
        exact ⟨_, rfl, by rw [hv.out]; have := HR.out; rwa [List.take_length] at this, hb⟩
def srp_Choose.T5 : Bool × List (List Nat × List Nat) := (true, [([], []), ([0], [0]), ([1], [1]), ([2], [2]), ([2], [2]), ([3, 4, 2], [2, 3, 4]), ([5, 2], [2, 5]), ([2], [2]), ([2], [2]), ([7, 8, 2], [2, 7, 8]), ([9, 2], [2, 9]), ([6, 10, 2, 2], [2, 6, 10]), ([11, 2], [2, 11]), ([2, 12], [2, 12]), ([13, 11], [13])])
def srp_Choose.B5 : List Nat := [0, 1, 3, 7, 7, 31, 63, 7, 7, 391, 903, 2047, 4095, 8191, 16383]
theorem srp_Choose.tab5 : rtab .any (opsOf Tryz.f121 5) = srp_Choose.T5 := by kernel_rfl
theorem srp_Choose.bits5 : waitsOk srp_Choose.T5.2 srp_Choose.B5 = true := by kernel_rfl
def srp_Choose.T7 : Bool × List (List Nat × List Nat) := (true, [([], []), ([], []), ([], []), ([1, 2], [1, 2]), ([3], [3]), ([4], [4]), ([], []), ([], []), ([6, 7], [6, 7]), ([0, 5, 8, 8], [0, 5, 8]), ([9, 9], [9])])
def srp_Choose.B7 : List Nat := [0, 0, 0, 6, 14, 30, 0, 0, 192, 511, 1023]
theorem srp_Choose.tab7 : rtab .any (opsOf Tryz.f121 7) = srp_Choose.T7 := by kernel_rfl
theorem srp_Choose.bits7 : waitsOk srp_Choose.T7.2 srp_Choose.B7 = true := by kernel_rfl
def chooseI (l : List S44) (js : List S182) : Int :=
  if jobA l js = false then -1
  else if firstI js false < 0 then firstI js true
  else if firstI js true < 0 then firstI js false
  else if jobAhead (js.getD (firstI js false).toNat z182) (js.getD (firstI js true).toNat z182) = false then firstI js true
  else if passB l (js.getD (firstI js false).toNat z182).f0.toNat (jobHeld l js) = true then firstI js false else firstI js true
theorem firstI_bd (js : List S182) (b : Bool) : -1 ≤ firstI js b ∧ firstI js b < js.length := firstL_bd js b js.length
theorem chooseI_bd (l : List S44) (js : List S182) : -1 ≤ chooseI l js ∧ chooseI l js < js.length := by
  have h1 := firstI_bd js true
  have h2 := firstI_bd js false
  unfold chooseI
  repeat' split
  all_goals first | omega | (constructor <;> omega)
theorem srp_Choose.calls (A : Option Addr) (c : Nat) (l : List S44) (B : Option Addr) (d : Nat) (js : List S182) (w : World) (h : Kd.C k44 w A l.length l) (h2 : Kd.C k182 w B js.length js) (hjd : js.length ≤ d) :
    Ret 121 #[.slice A l.length c, .slice B js.length d] w (.int .i64 (chooseI l js)) := by
  have hu := Tryz.underlying182
  have H := Aside0.mk h
  have H2 := Aside0.mk h2
  have hl := h.2.1
  have hl2 := h2.2.1
  clear h h2
  have hbf := firstI_bd js false
  have hbt := firstI_bd js true
  have start : ∀ (P : Ending → World → Prop), True := fun _ => trivial
  cases ho : jobA l js with
  | false =>
    have hv := Aside0.mk (show chooseI l js = -1 by unfold chooseI; rw [ho]; rfl)
    go_enter Tryz.func121, Tryz.ntmps121
    go_wp2_with fail
    refine (job_All.calls A c l B d js _ H.out H2.out hjd).mono ?_; rintro e w2 ⟨rfl, hb⟩
    rw [ho]
    go_wp2
    go_ret
    exact ⟨by rw [hv.out]; rfl, hb⟩
  | true =>
    have HO := Aside0.mk ho
    have hj32 := (jobA_iff.1 ho).2.1
    have hta := Aside0.mk (jobA_iff.1 ho).1
    by_cases cf : firstI js false < 0
    · have hv := Aside0.mk (show chooseI l js = firstI js true by unfold chooseI; rw [ho, if_pos cf]; rfl)
      generalize chooseI l js = r at hv ⊢
      have hf := Aside0.mk (show firstI js false = -1 by omega)
      clear hbf cf
      go_enter Tryz.func121, Tryz.ntmps121
      go_wp2_with fail
      refine (job_All.calls A c l B d js _ H.out H2.out hjd).mono ?_; rintro e w2 ⟨rfl, hb⟩
      rw [ho]
      clear ho
      go_wp2_with fail
      refine (job_First.calls B d js false _ (Kd.C_below H2.out hb)).mono ?_; rintro e w3 ⟨rfl, hb3⟩
      rw [hf.out]
      have hb' := below_step hb hb3
      go_wp2_with fail
      refine (job_First.calls B d js true _ (Kd.C_below H2.out hb')).mono ?_; rintro e w4 ⟨rfl, hb4⟩
      have hb'' := below_step hb' hb4
      go_wp2
      go_ret
      exact ⟨by rw [hv.out]; rfl, hb''⟩
    · obtain ⟨p, hp⟩ : ∃ p : Nat, firstI js false = p := ⟨(firstI js false).toNat, by omega⟩
      have hf := Aside0.mk hp
      have hpl : p < js.length := by omega
      have hpd : p < d := by omega
      obtain ⟨ad, x, rfl, hx, -, -, -, -, -, -⟩ := el182 H2.out p hpl
      by_cases ct : firstI js true < 0
      · have ht := Aside0.mk (show firstI js true = -1 by omega)
        have hv := Aside0.mk (show chooseI l js = p by unfold chooseI; rw [ho, if_neg cf, if_pos ct, hp]; rfl)
        generalize chooseI l js = r at hv ⊢
        clear hbf hbt cf ct hp
        go_enter Tryz.func121, Tryz.ntmps121
        go_wp2_with fail
        refine (job_All.calls A c l (some ad) d js _ H.out H2.out hjd).mono ?_; rintro e w2 ⟨rfl, hb⟩
        rw [ho]
        clear ho
        go_wp2_with fail
        refine (job_First.calls (some ad) d js false _ (Kd.C_below H2.out hb)).mono ?_; rintro e w3 ⟨rfl, hb3⟩
        rw [hf.out]
        have hb' := below_step hb hb3
        go_wp2_with fail
        refine (job_First.calls (some ad) d js true _ (Kd.C_below H2.out hb')).mono ?_; rintro e w4 ⟨rfl, hb4⟩
        rw [ht.out]
        have hb'' := below_step hb' hb4
        clear hb hb' hb3 hb4
        go_wp2
        refine st_ 15 (fun w' => Below w.heap.size w w') [] srp_Choose.tab5 srp_Choose.bits5 (below_drew1 hb'') (h := fun HT HW hHeld => ?_)
        repeat (first | refine pn_ HT (h := ?_) | refine tn_ HT HW hHeld (h := ?_) | refine zn_ HT (h := ?_))
        refine dn_ HT (h := ?_)
        go_wp2
        go_ret
        exact ⟨by rw [hv.out]; rfl, (hHeld)⟩
      · obtain ⟨q, hq⟩ : ∃ q : Nat, firstI js true = q := ⟨(firstI js true).toNat, by omega⟩
        have ht := Aside0.mk hq
        have hql : q < js.length := by omega
        have hqd : q < d := by omega
        obtain ⟨ad', y, hA, hy, -, -, -, -, -, -⟩ := el182 H2.out q hql
        obtain rfl := Option.some.inj hA
        clear hA
        have hxy : js.getD p z182 = x ∧ js.getD q z182 = y := by
          rw [List.getD_eq_getElem?_getD, List.getElem?_eq_getElem hpl, List.getD_eq_getElem?_getD, List.getElem?_eq_getElem hql, Option.getD_some, Option.getD_some, hx.out, hy.out]; exact ⟨rfl, rfl⟩
        have hv := Aside0.mk (show chooseI l js = if jobAhead x y = false then (q : Int) else if passB l x.f0.toNat (jobHeld l js) = true then (p : Int) else q by
          unfold chooseI; rw [ho, if_neg cf, if_neg ct, hp, hq, Int.toNat_natCast, Int.toNat_natCast, hxy.1, hxy.2]; rfl)
        generalize chooseI l js = r at hv ⊢
        obtain ⟨k, hk, hkl⟩ := jobR_task (by have := jobA_job ho hpl; rw [hx.out] at this; exact this)
        clear hbf hbt cf ct hp hq hxy
        go_enter Tryz.func121, Tryz.ntmps121
        go_wp2_with fail
        refine (job_All.calls A c l (some ad) d js _ H.out H2.out hjd).mono ?_; rintro e w2 ⟨rfl, hb⟩
        rw [ho]
        clear ho
        go_wp2_with fail
        refine (job_First.calls (some ad) d js false _ (Kd.C_below H2.out hb)).mono ?_; rintro e w3 ⟨rfl, hb3⟩
        rw [hf.out]
        have hb' := below_step hb hb3
        go_wp2_with fail
        refine (job_First.calls (some ad) d js true _ (Kd.C_below H2.out hb')).mono ?_; rintro e w4 ⟨rfl, hb4⟩
        rw [ht.out]
        have hb'' := below_step hb' hb4
        clear hb hb' hb3 hb4
        obtain ⟨ad2, x2, hA2, hx2, h0, h1, h2, h3, h4, h5⟩ := el182 (Kd.C_below H2.out hb'') p hpl
        obtain rfl := Option.some.inj hA2
        rw [hx.out] at hx2
        obtain rfl := hx2.out
        obtain ⟨ad3, y2, hA3, hy2, g0, g1, g2, g3, g4, g5⟩ := el182 (Kd.C_below H2.out hb'') q hql
        obtain rfl := Option.some.inj hA3
        rw [hy.out] at hy2
        obtain rfl := hy2.out
        clear hA2 hA3 hx2 hy2
        go_wp2
        refine st_ 15 (fun w' => Below w.heap.size w w' ∧ w'.cell? (ad.add (p * 6)) = some (.int .i64 x.f0) ∧ w'.cell? (⟨(ad.add (p * 6)).block, (ad.add (p * 6)).off + 1, none⟩) = some (.int .i64 x.f1) ∧ w'.cell? (⟨(ad.add (p * 6)).block, (ad.add (p * 6)).off + 2, none⟩) = some (.int .i64 x.f2) ∧ w'.cell? (⟨(ad.add (p * 6)).block, (ad.add (p * 6)).off + 3, none⟩) = some (.int .i64 x.f3) ∧ w'.cell? (⟨(ad.add (p * 6)).block, (ad.add (p * 6)).off + 4, none⟩) = some (.int .i64 x.f4) ∧ w'.cell? (⟨(ad.add (p * 6)).block, (ad.add (p * 6)).off + 5, none⟩) = some (.bool x.f5) ∧ w'.cell? (ad.add (q * 6)) = some (.int .i64 y.f0) ∧ w'.cell? (⟨(ad.add (q * 6)).block, (ad.add (q * 6)).off + 1, none⟩) = some (.int .i64 y.f1) ∧ w'.cell? (⟨(ad.add (q * 6)).block, (ad.add (q * 6)).off + 2, none⟩) = some (.int .i64 y.f2) ∧ w'.cell? (⟨(ad.add (q * 6)).block, (ad.add (q * 6)).off + 3, none⟩) = some (.int .i64 y.f3) ∧ w'.cell? (⟨(ad.add (q * 6)).block, (ad.add (q * 6)).off + 4, none⟩) = some (.int .i64 y.f4) ∧ w'.cell? (⟨(ad.add (q * 6)).block, (ad.add (q * 6)).off + 5, none⟩) = some (.bool y.f5)) [] srp_Choose.tab5 srp_Choose.bits5 ⟨below_drew1 hb'', h0, h1, h2, h3, h4, h5, g0, g1, g2, g3, g4, g5⟩ (h := fun HT HW hHeld => ?_)
        repeat (first | refine pn_ HT (h := ?_) | refine tn_ HT HW hHeld (h := ?_) | refine zn_ HT (h := ?_))
        refine oc_ HT (job_Ahead.calls x y _) (hS := fun w3 hb3 => ⟨below_step (hHeld.1) hb3, be_cell hb3 (hHeld.2.1), be_cell hb3 (hHeld.2.2.1), be_cell hb3 (hHeld.2.2.2.1), be_cell hb3 (hHeld.2.2.2.2.1), be_cell hb3 (hHeld.2.2.2.2.2.1), be_cell hb3 (hHeld.2.2.2.2.2.2.1), be_cell hb3 (hHeld.2.2.2.2.2.2.2.1), be_cell hb3 (hHeld.2.2.2.2.2.2.2.2.1), be_cell hb3 (hHeld.2.2.2.2.2.2.2.2.2.1), be_cell hb3 (hHeld.2.2.2.2.2.2.2.2.2.2.1), be_cell hb3 (hHeld.2.2.2.2.2.2.2.2.2.2.2.1), be_cell hb3 (hHeld.2.2.2.2.2.2.2.2.2.2.2.2)⟩) (h := fun w3 hb3 hHeld => ?_)
        generalize jobAhead x y = v at hv ⊢
        repeat (first | refine pn_ HT (h := ?_) | refine tn_ HT HW hHeld (h := ?_) | refine zn_ HT (h := ?_))
        refine dn_ HT (h := ?_)
        have hbR := Aside0.mk (hHeld.1)
        have hc0 := Aside0.mk (hHeld.2.1)
        clear hHeld HT HW
        cases v with
        | false =>
          go_wp2
          go_ret
          exact ⟨by rw [hv.out]; rfl, hbR.out⟩
        | true =>
          rw [hk] at hc0
          go_wp2
          refine st_ 11 (fun w' => Below w.heap.size w w' ∧ w'.cell? (ad.add (p * 6)) = some (.int .i64 k)) [] srp_Choose.tab7 srp_Choose.bits7 ⟨below_drew1 hbR.out, hc0.out⟩ (h := fun HT HW hHeld => ?_)
          repeat (first | refine pn_ HT (h := ?_) | refine tn_ HT HW hHeld (h := ?_) | refine zn_ HT (h := ?_))
          refine on_ HT (h := fun K hK => ?_)
          refine cn_ (job_Held.calls A c l (some ad) d js _ (Kd.C_below H.out (hHeld.1)) (Kd.C_below H2.out (hHeld.1)) hjd) (h := fun v3 w3 hv3 => ?_)
          obtain ⟨hR3, hb3⟩ := hv3
          refine hK.out _ _ ⟨below_step (hHeld.1) hb3, be_cell hb3 (hHeld.2)⟩ (fun hHeld => ?_)
          obtain ⟨B3, d3, rfl, hd3, hC3⟩ := Kd.R_reads hR3
          repeat (first | refine pn_ HT (h := ?_) | refine tn_ HT HW hHeld (h := ?_) | refine zn_ HT (h := ?_))
          refine oc_ HT (level_Passes.calls A c l k hkl B3 d3 (jobHeld l js) _ (Kd.C_below H.out (hHeld.1)) hC3 hta.out) (hS := fun w3 hb3 => ⟨below_step (hHeld.1) hb3, be_cell hb3 (hHeld.2)⟩) (h := fun w3 hb3 hHeld => ?_)
          generalize hps : passB l k (jobHeld l js) = ps
          have hv2 := Aside0.mk (show r = if ps = true then (p : Int) else q by rw [hv.out, hk, Int.toNat_natCast, hps]; simp)
          clear hps hv
          repeat (first | refine pn_ HT (h := ?_) | refine tn_ HT HW hHeld (h := ?_) | refine zn_ HT (h := ?_))
          refine dn_ HT (h := ?_)
          have hbR := Aside0.mk (hHeld.1)
          clear hHeld HT HW
          cases ps with
          | false =>
            go_wp2
            go_ret
            exact ⟨by rw [hv2.out]; rfl, hbR.out⟩
          | true =>
            go_wp2
            go_ret
            exact ⟨by rw [hv2.out]; rfl, hbR.out⟩
def srp_Tick.T7 : Bool × List (List Nat × List Nat) := (true, [([], []), ([0], [0]), ([], []), ([2], [2]), ([], []), ([], []), ([5], [5]), ([4, 6], [4, 6]), ([7], [7]), ([8], [8]), ([3, 9], [3, 9]), ([1, 10], [1, 10]), ([11, 0, 1, 2, 3, 4, 5, 6, 7, 8, 9, 10, 11], [11])])
def srp_Tick.B7 : List Nat := [0, 1, 0, 4, 0, 0, 32, 112, 240, 496, 1020, 2047, 4095]
theorem srp_Tick.tab7 : rtab .any (opsOf Tryz.f106 7) = srp_Tick.T7 := by kernel_rfl
theorem srp_Tick.bits7 : waitsOk srp_Tick.T7.2 srp_Tick.B7 = true := by kernel_rfl
def srp_Tick.T11 : Bool × List (List Nat × List Nat) := (true, [([], []), ([], []), ([], []), ([2], [2]), ([1, 3], [1, 3]), ([0, 4], [0, 4]), ([], []), ([], []), ([5, 5, 0, 1, 2, 3, 4, 5], [5]), ([6, 8, 0, 1, 2, 3, 4, 5, 6, 8], [6]), ([7, 9, 0, 1, 2, 3, 4, 5, 6, 7, 8, 9], [7])])
def srp_Tick.B11 : List Nat := [0, 0, 0, 4, 14, 31, 0, 0, 63, 383, 1023]
theorem srp_Tick.tab11 : rtab .any (opsOf Tryz.f106 11) = srp_Tick.T11 := by kernel_rfl
theorem srp_Tick.bits11 : waitsOk srp_Tick.T11.2 srp_Tick.B11 = true := by kernel_rfl
abbrev nw (ok : Nat → Prop) (w : World) : Nat → Prop := fun k => ok k ∨ w.heap.size ≤ k
def had1 (j : S182) : S182 := ⟨j.f0, j.f1, j.f2, j.f3, j.f4 + 1, true⟩
def overJ (l : List S44) (j : S182) : Bool := decide (mn j.f3 (l.getD j.f0.toNat z44).f0 ≤ j.f4 + 1)
def tickJ (l : List S44) (js : List S182) : List S182 × S182 × Bool :=
  if chooseI l js < 0 then (js, z182, false)
  else (js.take (chooseI l js).toNat ++ (if overJ l (js.getD (chooseI l js).toNat z182) then [] else [had1 (js.getD (chooseI l js).toNat z182)]) ++ js.drop ((chooseI l js).toNat + 1),
    had1 (js.getD (chooseI l js).toNat z182), overJ l (js.getD (chooseI l js).toNat z182))
theorem chooseI_job {l : List S44} {js : List S182} (h : ¬ chooseI l js < 0) : jobA l js = true := by
  cases ho : jobA l js with
  | true => rfl
  | false => exact absurd (show chooseI l js < 0 by unfold chooseI; rw [ho]; simp) h
theorem srp_Tick.calls (A : Option Addr) (c : Nat) (l : List S44) (B : Option Addr) (d : Nat) (js : List S182) (ok : Nat → Prop) (w : World) (h : Kd.C k44 w A l.length l) (h2 : Kd.F k182 w ok B js.length js) (hjd : js.length ≤ d) :
    Calls Tryz.prog 106 #[.slice A l.length c, .slice B js.length d] w fun e w' => ∃ A' c', e = .returned (.tuple #[.slice A' (tickJ l js).1.length c', vJ (tickJ l js).2.1, .bool (tickJ l js).2.2]) ∧ (tickJ l js).1.length ≤ c' ∧ Kd.F k182 w' (nw ok w) A' (tickJ l js).1.length (tickJ l js).1 ∧ Below w.heap.size w w' := by
  have hu := Tryz.underlying182
  have H := Aside0.mk h
  have HF := Aside0.mk h2
  have H2 := Aside0.mk (Kd.F_now h2)
  have hl := h.2.1
  have hl2 := (Kd.F_now h2).2.1
  clear h h2
  have hbd := chooseI_bd l js
  by_cases ci : chooseI l js < 0
  · have hv := Aside0.mk (show tickJ l js = (js, z182, false) by unfold tickJ; rw [if_pos ci])
    have hi := Aside0.mk (show chooseI l js = -1 by omega)
    generalize tickJ l js = r at hv ⊢
    clear hbd ci
    go_enter Tryz.func106, Tryz.ntmps106
    go_wp2_with fail
    refine (srp_Choose.calls A c l B d js _ (C_alloc H.out _) (C_alloc H2.out _) hjd).mono ?_; rintro e w2 ⟨rfl, hb⟩
    rw [hi.out]
    have hB := blk_below (blk_new w _) hb
    have hbA := below_step bl1 hb
    go_wp2_with ((with_reducible refine gate_store (t := 182) (p := 5) (v := .tmp 17) rfl ?_); refine stB (w0 := w) (seg := [.int .i64 0, .int .i64 0, .int .i64 0, .int .i64 0, .int .i64 0, .bool false]) (cs' := [.int .i64 0, .int .i64 0, .int .i64 0, .int .i64 0, .int .i64 0, .bool false]) hB hbA (Nat.le_refl _) (h := fun w3 hB3 hb3 hg3 => ?_))
    (try simp only [Exit.inBlock, Exit.then])
    refine bodyPost_ret (results_list (rs := [.tmp 4, .cell 5 182, .tmp 6]) rfl (by simp) (.tmp (.cell _ 182 _ (0, 0) _ rfl hB3 Tryz.underlying182 rfl (by kernel_rfl) (.tmp .nil)))) rfl ?_
    refine ⟨B, d, by rw [hv.out]; rfl, by rw [hv.out]; exact hjd, by rw [hv.out]; exact Kd.F_mono (Kd.F_below HF.out hb3) (fun _ h => Or.inl h), hb3⟩
  · obtain ⟨p, hp⟩ : ∃ p : Nat, chooseI l js = p := ⟨(chooseI l js).toNat, by omega⟩
    have hpl : p < js.length := by omega
    have hpd : p ≤ d := by omega
    have hpd1 : p + 1 ≤ d := by omega
    have HJ := Aside0.mk (chooseI_job ci)
    have hj32 := (jobA_iff.1 HJ.out).2.1
    obtain ⟨ad, x, rfl, hx, -, -, -, -, -, -⟩ := el182 H2.out p hpl
    obtain ⟨k, hk, hkl⟩ := jobR_task (by have := jobA_job HJ.out hpl; rw [hx.out] at this; exact this)
    obtain ⟨ad2, A3, c3, t, rfl, ht, -, -, -, -, -, -⟩ := el44 H.out k hkl
    have hb4 : 0 ≤ x.f4 ∧ x.f4 ≤ 200 ∧ 1 ≤ x.f3 ∧ x.f3 ≤ 200 := by
      have := jobA_job HJ.out hpl; rw [hx.out] at this
      simp [jobR, jobT] at this
      omega
    obtain ⟨q1, q2, q3, q4⟩ := hb4
    have hover := Aside0.mk (show overJ l x = decide (mn x.f3 t.f0 ≤ x.f4 + 1) by unfold overJ; rw [hk, Int.toNat_natCast, List.getD_eq_getElem?_getD, List.getElem?_eq_getElem hkl, Option.getD_some, ht.out])
    have hv := Aside0.mk (show tickJ l js = (js.take p ++ (if overJ l x then [] else [had1 x]) ++ js.drop (p + 1), had1 x, overJ l x) by
      unfold tickJ; rw [if_neg ci, hp, Int.toNat_natCast, List.getD_eq_getElem?_getD, List.getElem?_eq_getElem hpl, Option.getD_some, hx.out])
    have hi := Aside0.mk hp
    generalize tickJ l js = r at hv ⊢
    generalize overJ l x = ov at hover hv
    clear hbd ci hp
    go_enter Tryz.func106, Tryz.ntmps106
    go_wp2_with fail
    refine (srp_Choose.calls (some ad2) c l (some ad) d js _ (C_alloc H.out _) (C_alloc H2.out _) hjd).mono ?_; rintro e w2 ⟨rfl, hb⟩
    rw [hi.out]
    have hB := blk_below (blk_new w _) hb
    have hbA := below_step bl1 hb
    obtain ⟨ad3, y, hA, hy, h0, h1, h2, h3, h4, h5⟩ := el182 (Kd.C_below H2.out hbA) p hpl
    obtain rfl := Option.some.inj hA
    rw [hx.out] at hy
    obtain rfl := hy.out
    clear hA hy
    go_wp2
    have hB8 := blk_new w2 (.cells #[.int .i64 k, .int .i64 x.f1, .int .i64 x.f2, .int .i64 x.f3, .int .i64 (x.f4 + 1), .bool true] 182)
    have hB5 := blk_al hB (.cells #[.int .i64 k, .int .i64 x.f1, .int .i64 x.f2, .int .i64 x.f3, .int .i64 (x.f4 + 1), .bool true] 182)
    have hb1 := below_alloc hbA (.cells #[.int .i64 k, .int .i64 x.f1, .int .i64 x.f2, .int .i64 x.f3, .int .i64 (x.f4 + 1), .bool true] 182)
    have hg8 : w.heap.size < w2.heap.size := blk_lt hB
    generalize w2.alloc (.cells #[.int .i64 k, .int .i64 x.f1, .int .i64 x.f2, .int .i64 x.f3, .int .i64 (x.f4 + 1), .bool true] 182) = w3 at hB8 hB5 hb1 ⊢
    generalize w2.heap.size = g8 at hB8 hg8 ⊢
    clear hB hbA hb h0 h1 h2 h3 h4 h5 
    obtain ⟨s0, s1, s2, s3, s4, s5⟩ := bx6 hB8
    obtain ⟨ad4, A4, c4, t', hA, ht', g0, -, -, -, -, -⟩ := el44 (Kd.C_below H.out hb1) k hkl
    obtain rfl := Option.some.inj hA
    rw [ht.out] at ht'
    obtain rfl := ht'.out
    clear hA ht'
    refine st_ 13 (fun w' => Below w.heap.size w w' ∧ w'.cell? (⟨g8, 0, none⟩) = some (.int .i64 k) ∧ w'.cell? (⟨g8, 3, none⟩) = some (.int .i64 x.f3) ∧ w'.cell? (⟨g8, 4, none⟩) = some (.int .i64 (x.f4 + 1)) ∧ w'.cell? (ad2.add (k * 4)) = some (.int .i64 t.f0) ∧ w'.heap[g8]? = some (.cells #[.int .i64 k, .int .i64 x.f1, .int .i64 x.f2, .int .i64 x.f3, .int .i64 (x.f4 + 1), .bool true] 182 (0, 0)) ∧ w'.heap[w.heap.size]? = some (.cells #[.int .i64 0, .int .i64 0, .int .i64 0, .int .i64 0, .int .i64 0, .bool false] 182 (0, 0))) [] srp_Tick.tab7 srp_Tick.bits7 ⟨below_drew1 hb1, s0, s3, s4, g0, hB8, hB5⟩ (h := fun HT HW hHeld => ?_)
    repeat (first | refine pn_ HT (h := ?_) | refine tn_ HT HW hHeld (h := ?_) | refine zn_ HT (h := ?_))
    have hov := Aside0.mk (show decide ((if t.f0 < x.f3 then t.f0 else x.f3) ≤ x.f4 + 1) = ov from hover.out.symm)
    rw [hov.out]
    clear hov
    generalize (if t.f0 < x.f3 then t.f0 else x.f3) = mv
    refine dn_ HT (h := ?_)
    obtain ⟨hbR, r0, r3, r4, -, hB8, hB5⟩ := hHeld
    clear HT HW g0 s0 s1 s2 s3 s4 s5
    generalize w3.drew = w4 at hbR hB8 hB5 ⊢
    have h45 : w.heap.size < w4.heap.size := blk_lt hB5
    have h48 : g8 < w4.heap.size := blk_lt hB8
    have hF0 := Aside0.mk (Kd.F_bound HF.out)
    have hF1 := Aside0.mk (F_takeN hF0.out (m := p) (by omega))
    have hF2 := Aside0.mk (F_cutN hF0.out (m := p + 1) (by omega) hjd)
    have hcut := cutTo row182 (some ad) (n := js.length) (c := d) (j := p) (by omega) hjd
    have hN0 := N_empty (d := k182) w4 w.heap.size (fun k => (ok k ∧ k < w.heap.size) ∨ (w.heap.size < k ∧ k ≠ g8)) 182 hbR.size (Or.inr ⟨h45, by omega⟩)
    obtain ⟨A7, hA7⟩ : ∃ A7, A7 = if d = p + 1 then some ad else (some ad).map (·.add ((p + 1) * k182.sz)) := ⟨_, rfl⟩
    have hcut2 : ∀ W : World, (Instr.slice 78 (.slice (some ad) js.length d) (some (.int .i64 ((p : Int) + 1))) none none).run Tryz.prog W = .ok (.slice A7 (js.length - (p + 1)) (d - (p + 1))) W := by rw [hA7]; exact cutFrom row182 (some ad) (n := js.length) (c := d) (j := p + 1) (by omega)
    have hF3 := Aside0.mk (show Kd.F k182 w (fun k => ok k ∧ k < w.heap.size) A7 (js.length - (p + 1)) (js.drop (p + 1)) from by rw [hA7]; exact hF2.out)
    have HA7 := Aside0.mk hA7
    have HW1 := Aside0.mk (show wrap64 ((p : Int) + 1) = (p : Int) + 1 from w64 (by omega) (by omega))
    clear hA7 hF2
    cases ov with
    | true =>
      go_wp2_with (first
        | ((with_reducible refine gate_builtin (b := .append) (xs := #[.tmp 39, .tmp 42]) rfl ?_); at_builtin; refine apNR row182 (w0 := w) hN0 (Kd.F_below hF1.out (below_alloc hbR _)) (fun k hk => ⟨Or.inl hk, ne_own hN0 hk.2⟩) (fun k hk => Or.inr (by rw [alsz] at hk; omega)) (below_alloc hbR _) (by rw [alsz]; omega) (by show 0 + p ≤ 100000; omega) (h := fun v5 w5 hN5 hb5 hg5 hat5 => ?_); (have hB8' := blk_grown (blk_al hB8 _) hg5 (Kd.N_away hN0 (fun k hk => by omega))); (have hB5' := blk_grown (blk_al hB5 _) hg5 (Kd.N_away hN0 (fun k hk => by omega))); (obtain ⟨s0, s1, s2, s3, s4, s5⟩ := bx6 hB8'); (have h85 := blk_lt hB8')))
      generalize hys : [] ++ js.take p = ys at hN5
      have hyl : ys.length ≤ 100 := by rw [← hys]; simp only [List.nil_append, List.length_append, List.length_take, List.length_cons, List.length_nil]; omega
      have hw1 := HW1.out
      refine st_ 11 (fun w' => Below w.heap.size w w' ∧ w'.cell? (⟨g8, 0, none⟩) = some (.int .i64 k) ∧ w'.cell? (⟨g8, 1, none⟩) = some (.int .i64 x.f1) ∧ w'.cell? (⟨g8, 2, none⟩) = some (.int .i64 x.f2) ∧ w'.cell? (⟨g8, 3, none⟩) = some (.int .i64 x.f3) ∧ w'.cell? (⟨g8, 4, none⟩) = some (.int .i64 (x.f4 + 1)) ∧ w'.cell? (⟨g8, 5, none⟩) = some (.bool true) ∧ w'.heap[w.heap.size]? = some (.cells #[.int .i64 0, .int .i64 0, .int .i64 0, .int .i64 0, .int .i64 0, .bool false] 182 (0, 0))) [9] srp_Tick.tab11 srp_Tick.bits11 ⟨below_drew1 hb5, s0, s1, s2, s3, s4, s5, hB5'⟩ (h := fun HT HW hHeld => ?_)
      repeat (first | refine pn_ HT (h := ?_) | refine tn_ HT HW hHeld (h := ?_) | refine zn_ HT (h := ?_))
      clear hw1
      refine on_ HT (h := fun K hK => ?_)
      refine apNR_step row182 (w0 := w) (Kd.N_drew hN5) (Kd.F_below hF3.out (hHeld.1)) (fun k hk => ⟨Or.inl hk, ne_own hN5 hk.2⟩) (fun k hk => Or.inr (by have h1 : w.heap.size < w5.heap.size := blk_lt hB5'; have h2 : g8 < w5.heap.size := blk_lt hB8'; have h3 : w5.heap.size ≤ k := hk; omega)) (hHeld.1) (hHeld.1).size (by omega) (h := fun v7 w7 hN7 hb7 hg7 hat7 => ?_)
      have hB8x := blk_grown (blk_drew hB8') hg7 (Kd.N_away hN5 (fun k hk => by omega))
      have hB5x := blk_grown (blk_drew hB5') hg7 (Kd.N_away hN5 (fun k hk => by omega))
      obtain ⟨z0, z1, z2, z3, z4, z5⟩ := bx6 hB8x
      refine hK.out _ _ ⟨hb7, z0, z1, z2, z3, z4, z5, hB5x⟩ (fun hHeld => ?_)
      refine nm_ (h := ?_)
      repeat (first | refine pn_ HT (h := ?_) | refine tn_ HT HW hHeld (h := ?_) | refine zn_ HT (h := ?_))
      refine ln_ HT (h := fun K hK => ?_)
      refine stB_step (w0 := w) (seg := [.int .i64 k, .int .i64 x.f1, .int .i64 x.f2, .int .i64 x.f3, .int .i64 (x.f4 + 1), .bool true]) (cs' := [.int .i64 k, .int .i64 x.f1, .int .i64 x.f2, .int .i64 x.f3, .int .i64 (x.f4 + 1), .bool true]) hB5x hb7 (Nat.le_refl _) (h := fun w8 hB8y hb8 hg8' => ?_)
      refine hK.out _ _ ?_
      repeat (first | refine pn_ HT (h := ?_) | refine zn_ HT (h := ?_))
      refine dn_ HT (h := ?_)
      go_wp2
      (try simp only [Exit.inBlock, Exit.then])
      have hN8 := Kd.N_grown hN7 hg8' (fun k hk he => by have := Option.some.inj he; omega)
      obtain ⟨A8, c8, hv8⟩ := Kd.N_slice hN8
      subst hv8
      have hlc8 := (Kd.N_reads' hN8).2.1
      have hF8 := Kd.N_F hN8
      refine bodyPost_ret (results_list (rs := [.tmp 4, .cell 5 182, .tmp 6]) rfl (by simp) (.tmp (.cell _ 182 _ (0, 0) _ rfl hB8y Tryz.underlying182 rfl (by kernel_rfl) (.tmp .nil)))) rfl ?_
      have hr : r = (ys ++ js.drop (p + 1), had1 x, true) := by rw [hv.out, ← hys]; simp
      clear hv
      subst hr
      exact ⟨A8, c8, by rw [← hk]; rfl, hlc8, Kd.F_mono hF8 (fun k hk => hk.elim (fun h => Or.inl h.1) (fun h => Or.inr (by omega))), hb8⟩
    | false =>
      have hFK : ∀ W : World, Kd.FK k182 W (fun _ => False) (had1 x) [.int .i64 k, .int .i64 x.f1, .int .i64 x.f2, .int .i64 x.f3, .int .i64 (x.f4 + 1), .bool true] := fun W => by rw [← hk]; exact k182_mkF W _ (had1 x)
      go_wp2_with (first
        | ((with_reducible refine gate_builtin (b := .append) (xs := #[.tmp 39, .tmp 42]) rfl ?_); at_builtin; refine apNR row182 (w0 := w) hN0 (Kd.F_below hF1.out (below_alloc hbR _)) (fun k hk => ⟨Or.inl hk, ne_own hN0 hk.2⟩) (fun k hk => Or.inr (by rw [alsz] at hk; omega)) (below_alloc hbR _) (by rw [alsz]; omega) (by show 0 + p ≤ 100000; omega) (h := fun v5 w5 hN5 hb5 hg5 hat5 => ?_); (have hB8' := blk_grown (blk_al hB8 _) hg5 (Kd.N_away hN0 (fun k hk => by omega))); (have hB5' := blk_grown (blk_al hB5 _) hg5 (Kd.N_away hN0 (fun k hk => by omega))); (obtain ⟨s0, s1, s2, s3, s4, s5⟩ := bx6 hB8'); (have h85 := blk_lt hB8'))
        | ((with_reducible refine gate_builtin (b := .append) (xs := #[.tmp 46, .tmp 48]) rfl ?_); at_builtin; refine apN row182 (w0 := w) (cs := [.int .i64 k, .int .i64 x.f1, .int .i64 x.f2, .int .i64 x.f3, .int .i64 (x.f4 + 1), .bool true]) (p := had1 x) (okp := fun _ => False) hN5 (hFK _) (fun k hk => hk.elim) (fun k hk => Or.inr (by omega)) hb5 hb5.size (by rw [List.nil_append, List.length_take]; omega) (h := fun v6 w6 hN6 hb6 hg6 hat6 => ?_); (have hB8'' := blk_grown hB8' hg6 (Kd.N_away hN5 (fun k hk => by omega))); (have hB5'' := blk_grown hB5' hg6 (Kd.N_away hN5 (fun k hk => by omega))); (obtain ⟨s0, s1, s2, s3, s4, s5⟩ := bx6 hB8'')))
      generalize hys : [] ++ js.take p ++ [had1 x] = ys at hN6
      have hyl : ys.length ≤ 100 := by rw [← hys]; simp only [List.nil_append, List.length_append, List.length_take, List.length_cons, List.length_nil]; omega
      have hw1 := HW1.out
      refine st_ 11 (fun w' => Below w.heap.size w w' ∧ w'.cell? (⟨g8, 0, none⟩) = some (.int .i64 k) ∧ w'.cell? (⟨g8, 1, none⟩) = some (.int .i64 x.f1) ∧ w'.cell? (⟨g8, 2, none⟩) = some (.int .i64 x.f2) ∧ w'.cell? (⟨g8, 3, none⟩) = some (.int .i64 x.f3) ∧ w'.cell? (⟨g8, 4, none⟩) = some (.int .i64 (x.f4 + 1)) ∧ w'.cell? (⟨g8, 5, none⟩) = some (.bool true) ∧ w'.heap[w.heap.size]? = some (.cells #[.int .i64 0, .int .i64 0, .int .i64 0, .int .i64 0, .int .i64 0, .bool false] 182 (0, 0))) [9] srp_Tick.tab11 srp_Tick.bits11 ⟨below_drew1 hb6, s0, s1, s2, s3, s4, s5, hB5''⟩ (h := fun HT HW hHeld => ?_)
      repeat (first | refine pn_ HT (h := ?_) | refine tn_ HT HW hHeld (h := ?_) | refine zn_ HT (h := ?_))
      clear hw1
      refine on_ HT (h := fun K hK => ?_)
      refine apNR_step row182 (w0 := w) (Kd.N_drew hN6) (Kd.F_below hF3.out (hHeld.1)) (fun k hk => ⟨Or.inl hk, ne_own hN6 hk.2⟩) (fun k hk => Or.inr (by have h1 : w.heap.size < w6.heap.size := blk_lt hB5''; have h2 : g8 < w6.heap.size := blk_lt hB8''; have h3 : w6.heap.size ≤ k := hk; omega)) (hHeld.1) (hHeld.1).size (by omega) (h := fun v7 w7 hN7 hb7 hg7 hat7 => ?_)
      have hB8x := blk_grown (blk_drew hB8'') hg7 (Kd.N_away hN6 (fun k hk => by omega))
      have hB5x := blk_grown (blk_drew hB5'') hg7 (Kd.N_away hN6 (fun k hk => by omega))
      obtain ⟨z0, z1, z2, z3, z4, z5⟩ := bx6 hB8x
      refine hK.out _ _ ⟨hb7, z0, z1, z2, z3, z4, z5, hB5x⟩ (fun hHeld => ?_)
      refine nm_ (h := ?_)
      repeat (first | refine pn_ HT (h := ?_) | refine tn_ HT HW hHeld (h := ?_) | refine zn_ HT (h := ?_))
      refine ln_ HT (h := fun K hK => ?_)
      refine stB_step (w0 := w) (seg := [.int .i64 k, .int .i64 x.f1, .int .i64 x.f2, .int .i64 x.f3, .int .i64 (x.f4 + 1), .bool true]) (cs' := [.int .i64 k, .int .i64 x.f1, .int .i64 x.f2, .int .i64 x.f3, .int .i64 (x.f4 + 1), .bool true]) hB5x hb7 (Nat.le_refl _) (h := fun w8 hB8y hb8 hg8' => ?_)
      refine hK.out _ _ ?_
      repeat (first | refine pn_ HT (h := ?_) | refine zn_ HT (h := ?_))
      refine dn_ HT (h := ?_)
      go_wp2
      (try simp only [Exit.inBlock, Exit.then])
      have hN8 := Kd.N_grown hN7 hg8' (fun k hk he => by have := Option.some.inj he; omega)
      obtain ⟨A8, c8, hv8⟩ := Kd.N_slice hN8
      subst hv8
      have hlc8 := (Kd.N_reads' hN8).2.1
      have hF8 := Kd.N_F hN8
      refine bodyPost_ret (results_list (rs := [.tmp 4, .cell 5 182, .tmp 6]) rfl (by simp) (.tmp (.cell _ 182 _ (0, 0) _ rfl hB8y Tryz.underlying182 rfl (by kernel_rfl) (.tmp .nil)))) rfl ?_
      have hr : r = (ys ++ js.drop (p + 1), had1 x, false) := by rw [hv.out, ← hys]; simp
      clear hv
      subst hr
      exact ⟨A8, c8, by rw [← hk]; rfl, hlc8, Kd.F_mono hF8 (fun k hk => hk.elim (fun h => Or.inl h.1) (fun h => Or.inr (by omega))), hb8⟩
def whenB (n : Int) : Bool := decide (0 ≤ n ∧ n ≤ 4611686018427387703)
theorem part_when.calls (n : Int) (w : World) : Ret 74 #[.int .i64 n] w (.bool (whenB n)) := by
  go_enter Tryz.func74, Tryz.ntmps74
  go_wp2 <;> go_ret <;> exact ⟨rb (by first | (simp_all [whenB]; done) | (simp_all [whenB]; omega)), bl0⟩
def partR (s : S80) : Bool := decide (s.f1.length = s.f0.length) && polR s.f0 s.f2 && jobA s.f0 s.f3 && decide (s.f4.length ≤ 2000)
theorem partR_iff {s : S80} : partR s = true ↔ s.f1.length = s.f0.length ∧ polR s.f0 s.f2 = true ∧ jobA s.f0 s.f3 = true ∧ s.f4.length ≤ 2000 := by simp [partR, and_assoc]
theorem part_Right.calls (s : S80) (cs : List Value) (ok : Nat → Prop) (w : World) (h : Kd.FK k80 w ok s cs) : Ret 55 #[.agg cs.toArray] w (.bool (partR s)) := by
  have hu := Tryz.underlying80
  obtain ⟨A0, c0, A1, c1, A2, c2, A3, c3, A4, c4, rfl, l0, g0, l1, g1, l2, g2, l3, g3, l4, g4⟩ := k80_openF h
  have G0 := Aside0.mk (Kd.F_now g0)
  have G2 := Aside0.mk (Kd.F_now g2)
  have G3 := Aside0.mk (Kd.F_now g3)
  have n0 := (Kd.F_now g0).2.1
  have n1 := (Kd.F_now g1).2.1
  have n4 := (Kd.F_now g4).2.1
  clear h g0 g1 g2 g3 g4
  by_cases hl : s.f1.length = s.f0.length
  · cases hp : polR s.f0 s.f2 with
    | false =>
      have hv := Aside0.mk (show partR s = false by unfold partR; rw [hp]; simp)
      generalize partR s = r at hv ⊢
      have HP := Aside0.mk hp
      clear hp
      go_enter Tryz.func55, Tryz.ntmps55
      go_wp2_with fail
      refine (police_Right.calls A0 c0 s.f0 A2 c2 s.f2 _ (C_alloc G0.out _) (C_alloc G2.out _)).mono ?_; rintro e w2 ⟨rfl, hb⟩
      rw [HP.out]
      have hB := blk_below (blk_new w _) hb
      have hbA := below_step bl1 hb
      obtain ⟨x0, x1, x2, x3, x4⟩ := bx5 hB
      go_wp2
      go_ret
      exact ⟨by rw [hv.out]; rfl, hbA⟩
    | true =>
      have HP := Aside0.mk hp
      cases hj : jobA s.f0 s.f3 with
      | false =>
        have hv := Aside0.mk (show partR s = false by unfold partR; rw [hj]; simp)
        generalize partR s = r at hv ⊢
        have HJ := Aside0.mk hj
        clear hp hj
        go_enter Tryz.func55, Tryz.ntmps55
        go_wp2_with fail
        refine (police_Right.calls A0 c0 s.f0 A2 c2 s.f2 _ (C_alloc G0.out _) (C_alloc G2.out _)).mono ?_; rintro e w2 ⟨rfl, hb⟩
        rw [HP.out]
        have hB := blk_below (blk_new w _) hb
        have hbA := below_step bl1 hb
        obtain ⟨x0, x1, x2, x3, x4⟩ := bx5 hB
        go_wp2_with fail
        refine (job_All.calls A0 c0 s.f0 A3 c3 s.f3 _ (Kd.C_below G0.out hbA) (Kd.C_below G3.out hbA) l3).mono ?_; rintro e w3 ⟨rfl, hb3⟩
        rw [HJ.out]
        have hB' := blk_below hB hb3
        have hbB := below_step hbA hb3
        clear x0 x1 x2 x3 x4
        obtain ⟨x0, x1, x2, x3, x4⟩ := bx5 hB'
        go_wp2
        go_ret
        exact ⟨by rw [hv.out]; rfl, hbB⟩
      | true =>
        have hv := Aside0.mk (show partR s = decide ((s.f4.length : Int) ≤ 2000) by unfold partR; rw [hp, hj, decide_eq_true hl]; simp only [Bool.true_and]; rw [Bool.eq_iff_iff, decide_eq_true_iff, decide_eq_true_iff]; omega)
        generalize partR s = r at hv ⊢
        have HJ := Aside0.mk hj
        clear hp hj
        go_enter Tryz.func55, Tryz.ntmps55
        go_wp2_with fail
        refine (police_Right.calls A0 c0 s.f0 A2 c2 s.f2 _ (C_alloc G0.out _) (C_alloc G2.out _)).mono ?_; rintro e w2 ⟨rfl, hb⟩
        rw [HP.out]
        have hB := blk_below (blk_new w _) hb
        have hbA := below_step bl1 hb
        obtain ⟨x0, x1, x2, x3, x4⟩ := bx5 hB
        go_wp2_with fail
        refine (job_All.calls A0 c0 s.f0 A3 c3 s.f3 _ (Kd.C_below G0.out hbA) (Kd.C_below G3.out hbA) l3).mono ?_; rintro e w3 ⟨rfl, hb3⟩
        rw [HJ.out]
        have hB' := blk_below hB hb3
        have hbB := below_step hbA hb3
        clear x0 x1 x2 x3 x4
        obtain ⟨x0, x1, x2, x3, x4⟩ := bx5 hB'
        go_wp2
        go_ret
        exact ⟨by rw [hv.out]; first | rfl | simp, hbB⟩
  · have hv := Aside0.mk (show partR s = false by unfold partR; rw [decide_eq_false hl]; rfl)
    generalize partR s = r at hv ⊢
    have hn : ((s.f1.length : Int) == (s.f0.length : Int)) = false := by simpa using fun h => hl (by omega)
    have hn2 : (s.f1.length == s.f0.length) = false := by simpa using hl
    clear hl
    go_enter Tryz.func55, Tryz.ntmps55
    go_wp2
    go_ret
    exact ⟨by rw [hv.out]; rfl, bl1⟩
def book_note.T1 : Bool × List (List Nat × List Nat) := (true, [([], []), ([], []), ([1], [1]), ([2], [2]), ([3], [3]), ([], []), ([5], [5]), ([6], [6]), ([7], [7]), ([], []), ([], []), ([8, 9, 10], [8, 9, 10]), ([11], [11]), ([4, 12], [4, 12]), ([0, 0, 1, 2, 3, 4, 5, 6, 7, 8, 9, 10, 11, 12, 13], [0]), ([14, 0, 1, 2, 3, 4, 5, 6, 7, 8, 9, 10, 11, 12, 13], [14]), ([15, 13, 13, 0, 1, 2, 3, 4, 5, 6, 7, 8, 9, 10, 11, 12, 13], [13, 15])])
def book_note.B1 : List Nat := [0, 0, 2, 6, 14, 0, 32, 96, 224, 0, 0, 2016, 4064, 8190, 16383, 32767, 65535]
theorem book_note.tab1 : rtab .any (opsOf Tryz.f100 1) = book_note.T1 := by kernel_rfl
theorem book_note.bits1 : waitsOk book_note.T1.2 book_note.B1 = true := by kernel_rfl
theorem ev_ {ops : Array Oper} {o : Oper} {a : Act} {Q : Exit → Act → World → Prop} {Kc : Act → World → Prop} {W w1 : World} {v : Value} {n : Tmp} (hrun : (execOp a.eval o).run Tryz.prog W = .ok (.value v) w1) (h : Kc (a.put (some n) v) w1) (hw : Region.wanted o (yielded ops a.tmps) = true := by rfl) (hN : o.dst = some n := by rfl) :
    if Region.wanted o (yielded ops a.tmps) = true then Oper.wp Tryz.prog o a W Kc Q else Kc (a.put (some n) undef) W := by
  rw [← hN] at h ⊢
  exact event_step hw hrun h
def noteL (log : List S38) (now k i : Int) : List S38 := if log.length < 2000 then log ++ [⟨now, k, i⟩] else log
abbrev handS (g : Nat) (lv : Value) : Nat → Prop := fun k => k = g ∨ some k = lv.ownBlock
abbrev okG (g : Nat) : Nat → Prop := fun k => k ≠ g
theorem book_note.calls (base g : Nat) (lv : Value) (log : List S38) (now kd i : Int) (v2 v3 v4 v5_ v6 : Value) (w : World) (hbs : base ≤ w.heap.size) (hg : base ≤ g) (hB : w.heap[g]? = some (.cells #[lv, .int .i64 now, v2, v3, v4, v5_, v6] 160 (0, 0))) (hN : Kd.N k38 38 w base (okG g) lv log) :
    Calls Tryz.prog 100 #[.pointer (some ⟨g, 0, none⟩), .int .i64 kd, .int .i64 i] w fun e w' => e = .returned (.tuple #[]) ∧ ∃ lv', w'.heap[g]? = some (.cells #[lv', .int .i64 now, v2, v3, v4, v5_, v6] 160 (0, 0)) ∧ Kd.N k38 38 w' base (okG g) lv' (noteL log now kd i) ∧ Below base w w' ∧ Kept w w' (handS g lv) ∧ (lv'.ownBlock = lv.ownBlock ∨ ∃ b, lv'.ownBlock = some b ∧ w.heap.size ≤ b) := by
  obtain ⟨A, c, rfl⟩ := Kd.N_slice hN
  have HN := Aside0.mk hN
  have HB := Aside0.mk hB
  have hlm : log.length ≤ 9223372036854775807 := by have := (Kd.N_reads' hN).2.2; exact this.2.1
  have hgl := blk_lt hB
  have x0 : w.cell? ⟨g, 0, none⟩ = some (.slice A log.length c) := by rw [blk_cell hB]; rfl
  have x1 : w.cell? ⟨g, 1, none⟩ = some (.int .i64 now) := by rw [blk_cell hB]; rfl
  clear hN hB
  by_cases cl : log.length < 2000
  · have hv := Aside0.mk (show noteL log now kd i = log ++ [⟨now, kd, i⟩] from if_pos cl)
    generalize noteL log now kd i = r at hv ⊢
    go_enter Tryz.func100, Tryz.ntmps100
    go_wp2
    refine st_ 17 (fun w' => w'.cell? (⟨g, 0, none⟩) = some (.slice A log.length c) ∧ w'.cell? (⟨g, 1, none⟩) = some (.int .i64 now) ∧ Below base w w') [16] book_note.tab1 book_note.bits1 ⟨x0, x1, below_drew (Below.refl _ _)⟩ (h := fun HT HW hHeld => ?_)
    repeat (first | refine pn_ HT (h := ?_) | refine tn_ HT HW hHeld (h := ?_) | refine zn_ HT (h := ?_))
    refine on_ HT (h := fun K hK => ?_)
    refine ev_ (w1 := w.drew.alloc (.cells #[.int .i64 now, .int .i64 kd, .int .i64 i] 38)) (v := .slice (some ⟨w.drew.heap.size, 0, none⟩) 1 1) (by go_simp; done) ?_
    refine hK.out _ _ ⟨al_cell (hHeld.1) _, al_cell (hHeld.2.1) _, Below.alloc (hHeld.2.2) hbs _⟩ (fun hHeld => ?_)
    refine nm_ (h := ?_)
    repeat (first | refine pn_ HT (h := ?_) | refine tn_ HT HW hHeld (h := ?_) | refine zn_ HT (h := ?_))
    refine on_ HT (h := fun K hK => ?_)
    refine apN_step row38 (w0 := w) (base := base) (cs := [.int .i64 now, .int .i64 kd, .int .i64 i]) (p := ⟨now, kd, i⟩) (okp := fun _ => False) (Kd.N_drew HN.out) (k38_mkF _ _ ⟨now, kd, i⟩) (fun k hk => hk.elim) (fun k hk => by have h3 : w.heap.size ≤ k := hk; show k ≠ g; omega) (below_drew (Below.refl _ _)) hbs (by omega) (h := fun v5 w5 hN5 hb5 hg5 hat5 => ?_)
    have hB5 := blk_grown (blk_drew HB.out) hg5 (Kd.N_away HN.out (fun k hk => hk))
    obtain ⟨z0, z1, z2, z3, z4, z5, z6⟩ := bx7 hB5
    refine hK.out _ _ ⟨z0, z1, hb5⟩ (fun hHeld => ?_)
    refine nm_ (h := ?_)
    repeat (first | refine pn_ HT (h := ?_) | refine tn_ HT HW hHeld (h := ?_) | refine zn_ HT (h := ?_))
    refine ln_ HT (h := fun K hK => ?_)
    obtain ⟨A5, c5, rfl⟩ := Kd.N_slice hN5
    refine stB_step (w0 := w) (base := base) (seg := [.slice A5 (log ++ [(⟨now, kd, i⟩ : S38)]).length c5]) (cs' := [.slice A5 (log ++ [(⟨now, kd, i⟩ : S38)]).length c5, .int .i64 now, v2, v3, v4, v5_, v6]) hB5 hb5 hg (h := fun w6 hB6 hb6 hg6 => ?_)
    refine hK.out _ _ ?_
    refine dn_ HT (h := ?_)
    go_end0
    have hk6 : Kept w w6 (handS g (.slice A log.length c)) := ⟨Nat.le_trans hg5.size hg6.size, fun k hk hS => (hg6.block k (Nat.lt_of_lt_of_le hk hg5.size) (fun he => hS (Or.inl (Option.some.inj he)))).trans (hg5.block k hk (fun he => hS (Or.inr he)))⟩
    exact ⟨rfl, _, hB6, by rw [hv.out]; exact Kd.N_grown hN5 hg6 (fun k hk he => hk (Option.some.inj he)), hb6, hk6, hat5⟩
  · have hv := Aside0.mk (show noteL log now kd i = log from if_neg cl)
    generalize noteL log now kd i = r at hv ⊢
    go_enter Tryz.func100, Tryz.ntmps100
    go_wp2
    go_end0
    exact ⟨rfl, _, HB.out, by rw [hv.out]; exact HN.out, Below.refl _ _, ⟨Nat.le_refl _, fun _ _ _ => rfl⟩, Or.inl rfl⟩
def part_take.T1 : Bool × List (List Nat × List Nat) := (true, [([], []), ([], []), ([1], [1]), ([0, 2], [0, 2]), ([], []), ([3, 4], [3, 4]), ([], []), ([5, 6], [5, 6]), ([7], [7]), ([8, 3, 0, 1, 2, 3, 4, 5, 6, 7, 8], [8])])
def part_take.B1 : List Nat := [0, 0, 2, 7, 0, 31, 0, 127, 255, 511]
theorem part_take.tab1 : rtab .any (opsOf Tryz.f75 1) = part_take.T1 := by kernel_rfl
theorem part_take.bits1 : waitsOk part_take.T1.2 part_take.B1 = true := by kernel_rfl
theorem part_take.calls (s : S80) (cs : List Value) (ok : Nat → Prop) (now : Int) (w : World) (h : Kd.FK k80 w ok s cs) (hl : s.f4.length ≤ 2000) :
    Calls Tryz.prog 75 #[.agg cs.toArray, .int .i64 now] w fun e w' => ∃ g lv, e = .returned (.pointer (some ⟨g, 0, none⟩)) ∧ w.heap.size ≤ g ∧ w'.heap[g]? = some (.cells ([lv, .int .i64 now] ++ cs).toArray 160 (0, 0)) ∧ Kd.N k38 38 w' w.heap.size (okG g) lv s.f4 ∧ Below w.heap.size w w' := by
  have hu := Tryz.underlying80
  obtain ⟨A0, c0, A1, c1, A2, c2, A3, c3, A4, c4, rfl, l0, g0, l1, g1, l2, g2, l3, g3, l4, g4⟩ := k80_openF h
  have G4 := Aside0.mk (Kd.F_bound g4)
  clear h g0 g1 g2 g3 g4
  go_enter Tryz.func75, Tryz.ntmps75
  go_wp2
  have hB := blk_new w (.cells #[.slice A0 s.f0.length c0, .slice A1 s.f1.length c1, .slice A2 s.f2.length c2, .slice A3 s.f3.length c3, .slice A4 s.f4.length c4] 80)
  have hb : Below w.heap.size w (w.alloc (.cells #[.slice A0 s.f0.length c0, .slice A1 s.f1.length c1, .slice A2 s.f2.length c2, .slice A3 s.f3.length c3, .slice A4 s.f4.length c4] 80)) := bl1
  generalize w.alloc (.cells #[.slice A0 s.f0.length c0, .slice A1 s.f1.length c1, .slice A2 s.f2.length c2, .slice A3 s.f3.length c3, .slice A4 s.f4.length c4] 80) = w1 at hB hb ⊢
  obtain ⟨x0, x1, x2, x3, x4⟩ := bx5 hB
  refine st_ 10 (fun w' => Below w.heap.size w w' ∧ w'.cell? (⟨w.heap.size, 0, none⟩) = some (.slice A0 s.f0.length c0) ∧ w'.cell? (⟨w.heap.size, 1, none⟩) = some (.slice A1 s.f1.length c1) ∧ w'.cell? (⟨w.heap.size, 2, none⟩) = some (.slice A2 s.f2.length c2) ∧ w'.cell? (⟨w.heap.size, 3, none⟩) = some (.slice A3 s.f3.length c3) ∧ w'.cell? (⟨w.heap.size, 4, none⟩) = some (.slice A4 s.f4.length c4)) [8] part_take.tab1 part_take.bits1 ⟨below_drew1 hb, x0, x1, x2, x3, x4⟩ (h := fun HT HW hHeld => ?_)
  repeat (first | refine pn_ HT (h := ?_) | refine tn_ HT HW hHeld (h := ?_) | refine zn_ HT (h := ?_))
  refine on_ HT (h := fun K hK => ?_)
  refine ev_ (w1 := w1.drew.alloc (.cells #[] 38)) (v := .slice (some ⟨w1.drew.heap.size, 0, none⟩) 0 0) (by go_simp; done) ?_
  have hN0 := N_empty (d := k38) w1.drew w.heap.size (fun _ => True) 38 (hHeld.1).size trivial
  refine hK.out _ _ ⟨below_alloc (hHeld.1) _, al_cell (hHeld.2.1) _, al_cell (hHeld.2.2.1) _, al_cell (hHeld.2.2.2.1) _, al_cell (hHeld.2.2.2.2.1) _, al_cell (hHeld.2.2.2.2.2) _⟩ (fun hHeld => ?_)
  refine nm_ (h := ?_)
  repeat (first | refine pn_ HT (h := ?_) | refine tn_ HT HW hHeld (h := ?_) | refine zn_ HT (h := ?_))
  refine on_ HT (h := fun K hK => ?_)
  refine apNR_step row38 (w0 := w) hN0 (Kd.F_below G4.out (hHeld.1)) (fun k hk => ⟨trivial, ne_own hN0 hk.2⟩) (fun _ _ => trivial) (hHeld.1) (hHeld.1).size (by show 0 + s.f4.length ≤ 100000; omega) (h := fun v5 w5 hN5 hb5 hg5 hat5 => ?_)
  have hB5 := blk_grown (blk_al (blk_drew hB) _) hg5 (fun he => by have h1 := blk_lt hB; have h2 : w.heap.size = w1.heap.size := Option.some.inj he; omega)
  obtain ⟨z0, z1, z2, z3, z4⟩ := bx5 hB5
  rw [List.nil_append] at hN5
  refine hK.out _ _ ⟨hb5, z0, z1, z2, z3, z4⟩ (fun hHeld => ?_)
  refine nm_ (h := ?_)
  obtain ⟨A5, c5, rfl⟩ := Kd.N_slice hN5
  repeat (first | refine pn_ HT (h := ?_) | refine tn_ HT HW hHeld (h := ?_) | refine zn_ HT (h := ?_))
  refine ln_ HT (h := fun K hK => ?_)
  refine ev_ (w1 := w5.alloc (.cells #[.slice A5 s.f4.length c5, .int .i64 now, .slice A0 s.f0.length c0, .slice A1 s.f1.length c1, .slice A2 s.f2.length c2, .slice A3 s.f3.length c3, .slice A4 s.f4.length c4] 160)) (v := .pointer (some ⟨w5.heap.size, 0, none⟩)) (by go_simp; done) ?_
  refine hK.out _ _ ?_
  refine nm_ (h := ?_)
  repeat (first | refine pn_ HT (h := ?_) | refine zn_ HT (h := ?_))
  refine dn_ HT (h := ?_)
  go_wp2
  go_ret
  exact ⟨_, _, rfl, hb5.size, blk_new w5 _, Kd.N_alloc (Kd.N_mono (Kd.N_elderB hN5 w5.heap.size (Nat.le_refl _)) (fun k hk => hk.2)) _, below_alloc hb5 _⟩
theorem hand_state.calls (base g : Nat) (A A0 A1 A2 A3 A4 : Option Addr) (n c n0 c0 n1 c1 n2 c2 n3 c3 n4 c4 : Nat) (now : Int) (w : World) (hbs : base ≤ w.heap.size) (hg : base ≤ g)
    (hB : w.heap[g]? = some (.cells #[.slice A n c, .int .i64 now, .slice A0 n0 c0, .slice A1 n1 c1, .slice A2 n2 c2, .slice A3 n3 c3, .slice A4 n4 c4] 160 (0, 0))) :
    Calls Tryz.prog 79 #[.pointer (some ⟨g, 0, none⟩)] w fun e w' => e = .returned (.agg #[.slice A0 n0 c0, .slice A1 n1 c1, .slice A2 n2 c2, .slice A3 n3 c3, .slice A n c]) ∧ Below base w w' ∧ Kept w w' (fun k => k = g) := by
  have hu := Tryz.underlying80
  have hgl := blk_lt hB
  go_enter Tryz.func79, Tryz.ntmps79
  have hB2 := blk_new w (.cells #[.slice none 0 0, .slice none 0 0, .slice none 0 0, .slice none 0 0, .slice none 0 0] 80)
  have hB1 := blk_al hB (.cells #[.slice none 0 0, .slice none 0 0, .slice none 0 0, .slice none 0 0, .slice none 0 0] 80)
  have hb1 := Below.alloc (Below.refl base w) hbs (.cells #[.slice none 0 0, .slice none 0 0, .slice none 0 0, .slice none 0 0, .slice none 0 0] 80)
  obtain ⟨x0, x1, x2, x3, x4, x5, x6⟩ := bx7 hB1
  go_wp2_with (first
    | ((with_reducible refine gate_store (t := 34) (p := 11) (v := .tmp 8) rfl ?_); refine stB (w0 := w) (base := base) (seg := [.slice A n c]) (cs' := [.slice A n c, .int .i64 now, .slice A0 n0 c0, .slice A1 n1 c1, .slice A2 n2 c2, .slice A3 n3 c3, .slice A n c]) hB1 hb1 hg (h := fun w2 hB1' hb2 hg2 => ?_); (have hB2' := blk_grown hB2 hg2 (fun he => by have := Option.some.inj he; omega)); clear x0 x1 x2 x3 x4 x5 x6; (obtain ⟨x0, x1, x2, x3, x4, x5, x6⟩ := bx7 hB1'))
    | ((with_reducible refine gate_store (t := 80) (p := 2) (v := .tmp 15) rfl ?_); refine stB (w0 := w) (base := base) (seg := [.slice A0 n0 c0, .slice A1 n1 c1, .slice A2 n2 c2, .slice A3 n3 c3, .slice A n c]) (cs' := [.slice A0 n0 c0, .slice A1 n1 c1, .slice A2 n2 c2, .slice A3 n3 c3, .slice A n c]) hB2' hb2 hbs (h := fun w3 hB3 hb3 hg3 => ?_)))
  (try simp only [Exit.inBlock, Exit.then])
  have hk3 : Kept w w3 (fun k => k = g) := ⟨Nat.le_trans (by rw [alsz]; omega) (Nat.le_trans hg2.size hg3.size), fun k hk hS => (hg3.block k (by have := hg2.size; rw [alsz] at this; omega) (fun he => by have := Option.some.inj he; omega)).trans ((hg2.block k (by rw [alsz]; omega) (fun he => hS (Option.some.inj he))).trans (Below.heap_alloc w _ k hk))⟩
  refine bodyPost_ret (results_single (r := .cell 2 80) rfl (.cell _ 80 _ (0, 0) _ rfl hB3 Tryz.underlying80 rfl (by kernel_rfl) .nil)) rfl ?_
  exact ⟨rfl, hb3, hk3⟩
end Go.Proofs.YtmngaagojkihbaaGreat.FTop
