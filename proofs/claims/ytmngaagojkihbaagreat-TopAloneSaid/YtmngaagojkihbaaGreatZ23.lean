/- Contracts of functions that the statement TopAlone reaches, and plain lemmas. No condition. -/
import Derived.Test.YtmngaagojkihbaaGreatZ22
namespace Go.Proofs.YtmngaagojkihbaaGreat.FTop
open Go.RowKit Go.Proofs.YtmngaagojkihbaaGreatW.PrintWords Go.Proofs.YtmngaagojkihbaaGreatW.PrintLast Go.Proofs.YtmngaagojkihbaaGreatW.PrintMore
attribute [local go_sem] max2_int min2_int max_two min_two
set_option linter.unusedVariables false
set_option linter.unusedSimpArgs false
set_option maxHeartbeats 8000000
set_option maxRecDepth 100000
theorem noteL_len {log : List S38} (now k i : Int) (h : log.length ≤ 2000) : (noteL log now k i).length ≤ 2000 := by
  unfold noteL; split
  · rw [List.length_append, List.length_singleton]; omega
  · exact h
theorem missLog_len (now : Int) (js : List S182) : ∀ {log : List S38}, log.length ≤ 2000 → (missLog now log js).length ≤ 2000 := by
  induction js with
  | nil => exact fun h => h
  | cons j js ih =>
    intro log h
    refine ih ?_
    show (if now < j.f2 then log else noteL log now 6 j.f0).length ≤ 2000
    split
    · exact h
    · exact noteL_len _ _ _ h
theorem taskA_iff {l : List S44} : taskA l = true ↔ (∀ t ∈ l, taskR t = true) ∧ l.length ≤ 8 := by simp [taskA]
theorem jobR_iff {l : List S44} {j : S182} : jobR l j = true ↔ (0 ≤ j.f0 ∧ j.f0 < l.length ∧ 0 ≤ j.f1 ∧ j.f1 ≤ 4611686018427387703) ∧ jobT (l.getD j.f0.toNat z44) j = true := by simp [jobR]
theorem jobT_iff {t : S44} {j : S182} : jobT t j = true ↔ j.f2 = j.f1 + t.f1 ∧ 1 ≤ j.f3 ∧ j.f3 ≤ 200 ∧ 0 ≤ j.f4 ∧ j.f4 < t.f0 ∧ j.f4 < j.f3 ∧ (j.f5 = true ∨ j.f4 = 0) := by simp [jobT]
theorem getD_app {α : Type} (l r : List α) (i : Nat) (z : α) (h : i < l.length) : (l ++ r).getD i z = l.getD i z := by
  rw [List.getD_eq_getElem?_getD, List.getElem?_append_left h, List.getD_eq_getElem?_getD]
theorem jobR_app {l r : List S44} {j : S182} (h : jobR l j = true) : jobR (l ++ r) j = true := by
  rw [jobR_iff] at h ⊢
  obtain ⟨⟨h1, h2, h3, h4⟩, h5⟩ := h
  exact ⟨⟨h1, by rw [List.length_append]; omega, h3, h4⟩, by rw [getD_app _ _ _ _ (by omega)]; exact h5⟩
def lastI (s : S80) : Prop := ∀ j ∈ s.f3, j.f1 ≤ s.f2.getD j.f0.toNat (-1)
def partI (s : S80) : Prop := partR s = true ∧ lastI s
theorem partI_leave {s : S80} (h : partI s) (i : Int) : partI (leaveP s i).1 := by
  refine ⟨partR_leave h.1 i, ?_⟩
  unfold leaveP
  split
  · exact h.2
  · split
    · exact h.2
    · exact h.2
theorem partI_new {l : List S44} (h : taskA l = true) : partI (newP l) := ⟨partR_new h, fun j hj => by simp [newP] at hj⟩
theorem partI_add {s : S80} (h : partI s) {t : S44} (hT : taskR t = true) (hl : s.f0.length < 8) : partI (addP s t) := by
  obtain ⟨h1, h2, h3, h4⟩ := partR_iff.1 h.1
  obtain ⟨p1, p2, p3⟩ := polR_iff.1 h2
  obtain ⟨q1, q2, q3, q4⟩ := jobA_iff2.1 h3
  obtain ⟨t1, t2⟩ := taskA_iff.1 p1
  have hA : taskA (s.f0 ++ [t]) = true := taskA_iff.2 ⟨fun x hx => by
    rcases List.mem_append.1 hx with hx | hx
    · exact t1 x hx
    · rw [List.mem_singleton.1 hx]; exact hT, by rw [List.length_append, List.length_singleton]; omega⟩
  refine ⟨partR_iff.2 ⟨by simp [addP, h1], polR_iff.2 ⟨hA, by simp [addP, p2], fun n hn => ?_⟩, jobA_iff2.2 ⟨hA, q2, fun j hj => jobR_app (q3 j hj), q4⟩, h4⟩, fun j hj => ?_⟩
  · rcases List.mem_append.1 hn with hn | hn
    · exact p3 n hn
    · rw [List.mem_singleton.1 hn]; omega
  · show j.f1 ≤ (s.f2 ++ [-1]).getD j.f0.toNat (-1)
    obtain ⟨⟨r1, r2, r3, r4⟩, r5⟩ := jobR_iff.1 (q3 j hj)
    rw [getD_app _ _ _ _ (by omega)]
    exact h.2 j hj
theorem unE_0 {b : Bool} {e : Int} (he : e ≠ 0) : unE b e = 0 ↔ b = true := by cases b <;> simp [unE, he]
theorem firstE_0 {es : List Int} : firstE es = 0 ↔ ∀ e ∈ es, e = 0 := by
  induction es with
  | nil => simp [firstE]
  | cons e es ih =>
    show (if e = 0 then firstE es else e) = 0 ↔ _
    by_cases h : e = 0 <;> simp [h, ih]
theorem addE_0 {s : S80} {f : S85} {t : S44} : addE s f t = 0 ↔ taskR t = true ∧ s.f0.length < 8 ∧ firstI s.f3 true < 0 ∧ fitE (s.f0 ++ [t]) f = 0 := by
  unfold addE
  rw [firstE_0]
  simp only [List.mem_cons, List.not_mem_nil, or_false, forall_eq_or_imp, forall_eq, unE_0 (show (1 : Int) ≠ 0 by decide), unE_0 (show (3 : Int) ≠ 0 by decide), unE_0 (show (9 : Int) ≠ 0 by decide), decide_eq_true_eq]
  refine and_congr_right fun _ => and_congr_left fun _ => ?_
  omega
theorem partI_addA {s : S80} (h : partI s) (f : S85) (t : S44) : partI (addAP s f t).1 := by
  unfold addAP
  split
  · rename_i he
    obtain ⟨h1, h2, -, -⟩ := addE_0.1 he
    exact partI_add h h1 h2
  · exact h
theorem partI_change {s : S80} (h : partI s) (f : S85) (i : Int) (t : S44) : partI (changeP s f i t).1 := by
  unfold changeP
  split
  · split
    · exact partI_addA (partI_leave h i) f t
    · exact h
  · exact h
theorem partI_release {s : S80} (h : partI s) (i want now : Int) (h0 : 0 ≤ now) (h9 : now ≤ 4611686018427387703) : partI (releaseP s i want now).1 := by
  obtain ⟨h1, h2, h3, h4⟩ := partR_iff.1 h.1
  obtain ⟨p1, p2, p3⟩ := polR_iff.1 h2
  obtain ⟨q1, q2, q3, q4⟩ := jobA_iff2.1 h3
  obtain ⟨t1, t2⟩ := taskA_iff.1 p1
  unfold releaseP
  split
  · exact h
  rename_i c1
  split
  · exact h
  split
  · exact ⟨partR_iff.2 ⟨h1, h2, h3, noteL_len _ _ _ h4⟩, h.2⟩
  rename_i c3
  split
  · exact ⟨partR_iff.2 ⟨h1, h2, h3, noteL_len _ _ _ h4⟩, h.2⟩
  rename_i c4
  obtain ⟨n, rfl⟩ : ∃ n : Nat, i = n := ⟨i.toNat, by omega⟩
  have hn : n < s.f0.length := by omega
  have hn2 : n < s.f2.length := by omega
  have htn : s.f0.getD n z44 = s.f0[n] := by rw [List.getD_eq_getElem?_getD, List.getElem?_eq_getElem hn, Option.getD_some]
  have hln : s.f2.getD n 0 = s.f2[n] := by rw [List.getD_eq_getElem?_getD, List.getElem?_eq_getElem hn2, Option.getD_some]
  have hln2 : s.f2.getD n (-1) = s.f2[n] := by rw [List.getD_eq_getElem?_getD, List.getElem?_eq_getElem hn2, Option.getD_some]
  have hto := taskR_own (t1 _ (List.getElem_mem hn))
  rw [Int.toNat_natCast, htn, hln] at c3
  simp only [earlyB, decide_eq_true_eq] at c3
  rw [Int.toNat_natCast, htn]
  have hnew : ∀ j ∈ s.f3, j.f0 = n → j.f1 < now := fun j hj hjn => by
    have hl := h.2 j hj
    rw [hjn, Int.toNat_natCast, hln2] at hl
    have h5 := (jobR_iff.1 (q3 j hj)).1.2.2.1
    have : ¬ (s.f2[n] ≠ -1 ∧ now < s.f2[n] + s.f0[n].f2) := c3
    omega
  have hJ : jobR s.f0 ⟨n, now, now + s.f0[n].f1, want, 0, false⟩ = true := jobR_iff.2 ⟨⟨by show (0 : Int) ≤ n; omega, by show (n : Int) < _; omega, h0, h9⟩, by
    rw [show (S182.mk n now (now + s.f0[n].f1) want 0 false).f0.toNat = n from Int.toNat_natCast n, htn]
    exact jobT_iff.2 ⟨rfl, by show 1 ≤ want; omega, by show want ≤ 200; omega, by show (0 : Int) ≤ 0; omega, by show 0 < s.f0[n].f0; omega, by show 0 < want; omega, Or.inr rfl⟩⟩
  refine ⟨partR_iff.2 ⟨h1, polR_iff.2 ⟨p1, by show (s.f2.set n now).length = _; rw [List.length_set]; exact p2, fun x hx => ?_⟩, jobA_iff2.2 ⟨q1, by rw [List.length_append, List.length_singleton]; omega, fun j hj => ?_, ?_⟩, noteL_len _ _ _ h4⟩, fun j hj => ?_⟩
  · rcases List.mem_or_eq_of_mem_set hx with hx | hx
    · exact p3 x hx
    · rw [hx]; omega
  · rcases List.mem_append.1 hj with hj | hj
    · exact q3 j hj
    · rw [List.mem_singleton.1 hj]; exact hJ
  · rw [List.pairwise_append]
    refine ⟨q4, List.pairwise_singleton _ _, fun a ha b hb he => ?_⟩
    rw [List.mem_singleton.1 hb] at he
    have h5 := hnew a ha he.1.symm
    have h6 : now = a.f1 := he.2
    omega
  · show j.f1 ≤ (s.f2.set n now).getD j.f0.toNat (-1)
    rcases List.mem_append.1 hj with hj | hj
    · have hl := h.2 j hj
      rw [List.getD_eq_getElem?_getD, List.getElem?_set]
      by_cases hc : n = j.f0.toNat
      · rw [if_pos hc, if_pos hn2, Option.getD_some]
        have := hnew j hj (by have := (jobR_iff.1 (q3 j hj)).1.1; omega)
        omega
      · rw [if_neg hc, ← List.getD_eq_getElem?_getD]; exact hl
    · rw [List.mem_singleton.1 hj]
      show now ≤ (s.f2.set n now).getD (Int.toNat n) (-1)
      rw [Int.toNat_natCast, List.getD_eq_getElem?_getD, List.getElem?_set, if_pos rfl, if_pos hn2, Option.getD_some]
      omega
theorem leaveL_ok (now : Int) : ∀ (n : Nat) (ts : List S44) (ls : List Bool) (las : List Int) (log : List S38), ls.length = ts.length → las.length = ts.length → (∀ t ∈ ts, taskR t = true) → (∀ x ∈ las, -1 ≤ x ∧ x ≤ 4611686018427387903) → log.length ≤ 2000 → n ≤ ts.length →
    let q := leaveL now n (ts, ls, las, log)
    q.2.1.length = q.1.length ∧ q.2.2.1.length = q.1.length ∧ (∀ t ∈ q.1, taskR t = true) ∧ (∀ x ∈ q.2.2.1, -1 ≤ x ∧ x ≤ 4611686018427387903) ∧ q.2.2.2.length ≤ 2000 ∧ q.1.length ≤ ts.length := by
  intro n
  induction n with
  | zero => intro ts ls las log h1 h2 h3 h4 h5 h6; exact ⟨h1, h2, h3, h4, h5, Nat.le_refl _⟩
  | succ i ih =>
    intro ts ls las log h1 h2 h3 h4 h5 h6
    have hout : ∀ {α : Type} (l : List α), i < l.length → (outL l i).length = l.length - 1 := fun l hl => by unfold outL; rw [List.length_append, List.length_take, List.length_drop]; omega
    have hsub : ∀ {α : Type} (l : List α) (x : α), x ∈ outL l i → x ∈ l := fun l x hx => by
      unfold outL at hx
      rcases List.mem_append.1 hx with hx | hx
      · exact List.mem_of_mem_take hx
      · exact List.mem_of_mem_drop hx
    have e : leaveL now (i + 1) (ts, ls, las, log) = if ls.getD i false then leaveL now i (outL ts i, outL ls i, outL las i, noteL log now 7 i) else leaveL now i (ts, ls, las, log) := rfl
    rw [e]
    split
    · have := ih (outL ts i) (outL ls i) (outL las i) (noteL log now 7 i) (by rw [hout ts (by omega), hout ls (by omega), h1]) (by rw [hout ts (by omega), hout las (by omega), h2]) (fun t ht => h3 t (hsub ts t ht)) (fun x hx => h4 x (hsub las x hx)) (noteL_len _ _ _ h5) (by rw [hout ts (by omega)]; omega)
      obtain ⟨a1, a2, a3, a4, a5, a6⟩ := this
      exact ⟨a1, a2, a3, a4, a5, by have := hout ts (by omega); omega⟩
    · exact ih ts ls las log h1 h2 h3 h4 h5 (by omega)
theorem mn_lt {a b c : Int} (h : ¬ mn a b ≤ c) : c < a ∧ c < b := by simp only [mn] at h; split at h <;> omega
theorem tickJ_key {l : List S44} {js : List S182} (h : jobA l js = true) : jobA l (tickJ l js).1 = true ∧ ∀ j ∈ (tickJ l js).1, ∃ j0 ∈ js, j.f0 = j0.f0 ∧ j.f1 = j0.f1 := by
  unfold tickJ
  split
  · exact ⟨h, fun j hj => ⟨j, hj, rfl, rfl⟩⟩
  rename_i hc
  have hb := (chooseI_bd l js).2
  generalize hk : (chooseI l js).toNat = k
  have hkl : k < js.length := by omega
  obtain ⟨q1, q2, q3, q4⟩ := jobA_iff2.1 h
  have hg : js.getD k z182 = js[k] := by rw [List.getD_eq_getElem?_getD, List.getElem?_eq_getElem hkl, Option.getD_some]
  rw [hg]
  have hsp : js = js.take k ++ js[k] :: js.drop (k + 1) := by rw [← List.drop_eq_getElem_cons hkl, List.take_append_drop]
  have hmem := List.getElem_mem hkl
  generalize js[k] = j at hsp hmem ⊢
  generalize js.take k = a at hsp ⊢
  generalize js.drop (k + 1) = c at hsp ⊢
  subst hsp
  dsimp only
  by_cases ho : overJ l j = true
  · rw [if_pos ho, List.append_nil]
    have hs : (a ++ c).Sublist (a ++ j :: c) := List.Sublist.append (List.Sublist.refl _) (List.sublist_cons_self _ _)
    exact ⟨jobA_sub h hs, fun x hx => ⟨x, hs.subset hx, rfl, rfl⟩⟩
  · rw [if_neg ho, List.append_assoc]
    have hR := jobR_iff.1 (q3 j hmem)
    have hT := jobT_iff.1 hR.2
    have ho2 : ¬ mn j.f3 (l.getD j.f0.toNat z44).f0 ≤ j.f4 + 1 := fun e => ho (decide_eq_true e)
    obtain ⟨o1, o2⟩ := mn_lt ho2
    have hJ : jobR l (had1 j) = true := jobR_iff.2 ⟨hR.1, jobT_iff.2 ⟨hT.1, hT.2.1, hT.2.2.1, by show 0 ≤ j.f4 + 1; omega, o2, o1, Or.inl rfl⟩⟩
    have hmm : ∀ x, x ∈ a ++ ([had1 j] ++ c) → x = had1 j ∨ x ∈ a ++ j :: c := fun x hx => by
      simp only [List.mem_append, List.mem_cons, List.not_mem_nil, or_false] at hx ⊢
      rcases hx with h | h | h
      · exact Or.inr (Or.inl h)
      · exact Or.inl h
      · exact Or.inr (Or.inr (Or.inr h))
    refine ⟨jobA_iff2.2 ⟨q1, by simp only [List.length_append, List.length_cons, List.length_nil] at q2 ⊢; omega, fun x hx => ?_, ?_⟩, fun x hx => ?_⟩
    · rcases hmm x hx with rfl | hx
      · exact hJ
      · exact q3 x hx
    · rw [List.pairwise_append, List.pairwise_cons] at q4
      rw [List.singleton_append, List.pairwise_append, List.pairwise_cons]
      obtain ⟨r1, ⟨r2, r3⟩, r4⟩ := q4
      exact ⟨r1, ⟨r2, r3⟩, fun x hx y hy => by
        rcases List.mem_cons.1 hy with rfl | hy
        · exact r4 x hx j (List.mem_cons_self ..)
        · exact r4 x hx y (List.mem_cons_of_mem _ hy)⟩
    · rcases hmm x hx with rfl | hx
      · exact ⟨j, hmem, rfl, rfl⟩
      · exact ⟨x, hx, rfl, rfl⟩
theorem partI_tick {s : S80} (h : partI s) (given : Bool) (now : Int) : partI (tickP s given now).1 := by
  obtain ⟨h1, h2, h3, h4⟩ := partR_iff.1 h.1
  obtain ⟨p1, p2, p3⟩ := polR_iff.1 h2
  obtain ⟨t1, t2⟩ := taskA_iff.1 p1
  have hm := jobA_miss now h3
  have hml := missLog_len now s.f3 h4
  have key : ∀ r : Int × List S182 × List S38, (r = if given then runJ s.f0 now (missLog now s.f4 s.f3) (missL now s.f3) else (-1, missL now s.f3, missLog now s.f4 s.f3)) → jobA s.f0 r.2.1 = true ∧ (∀ j ∈ r.2.1, ∃ j0 ∈ s.f3, j.f0 = j0.f0 ∧ j.f1 = j0.f1) ∧ r.2.2.length ≤ 2000 := by
    intro r hr
    have hmem : ∀ j ∈ missL now s.f3, ∃ j0 ∈ s.f3, j.f0 = j0.f0 ∧ j.f1 = j0.f1 := fun j hj => ⟨j, (List.mem_filter.1 hj).1, rfl, rfl⟩
    cases given with
    | false => subst hr; exact ⟨hm, hmem, hml⟩
    | true =>
      rw [if_pos rfl] at hr
      unfold runJ at hr
      split at hr
      · subst hr; exact ⟨hm, hmem, hml⟩
      · subst hr
        obtain ⟨k1, k2⟩ := tickJ_key hm
        refine ⟨k1, fun j hj => ?_, ?_⟩
        · obtain ⟨j0, hj0, e1, e2⟩ := k2 j hj
          obtain ⟨j1, hj1, e3, e4⟩ := hmem j0 hj0
          exact ⟨j1, hj1, e1.trans e3, e2.trans e4⟩
        · show (runLog _ _ _ _ _).length ≤ 2000
          unfold runLog
          split
          · exact noteL_len _ _ _ hml
          · exact hml
  unfold tickP
  dsimp only
  generalize hr : (if given then runJ s.f0 now (missLog now s.f4 s.f3) (missL now s.f3) else (-1, missL now s.f3, missLog now s.f4 s.f3)) = r
  obtain ⟨k1, k2, k3⟩ := key r hr.symm
  by_cases hz : r.2.1.length = 0
  · rw [if_pos hz]
    have hz2 : r.2.1 = [] := List.length_eq_zero_iff.1 hz
    obtain ⟨a1, a2, a3, a4, a5, a6⟩ := leaveL_ok now s.f0.length s.f0 s.f1 s.f2 r.2.2 h1 p2 t1 p3 k3 (Nat.le_refl _)
    have hA := taskA_iff.2 ⟨a3, Nat.le_trans a6 t2⟩
    refine ⟨partR_iff.2 ⟨a1, polR_iff.2 ⟨hA, a2, a4⟩, jobA_iff2.2 ⟨hA, by rw [hz2]; simp, by rw [hz2]; simp, by rw [hz2]; exact List.Pairwise.nil⟩, a5⟩, fun j hj => ?_⟩
    rw [hz2] at hj; simp at hj
  · rw [if_neg hz]
    refine ⟨partR_iff.2 ⟨h1, h2, k1, k3⟩, fun j hj => ?_⟩
    obtain ⟨j0, hj0, e1, e2⟩ := k2 j hj
    show j.f1 ≤ s.f2.getD j.f0.toNat (-1)
    rw [e1, e2]
    exact h.2 j0 hj0
def kerI (s : S66) : Prop := kerR s = true ∧ ∀ p ∈ s.f3, lastI p
theorem kerI_parts {s : S66} (h : kerI s) {p : S80} (hp : p ∈ s.f3) : partI p := ⟨(kerR_iff.1 h.1).1 p hp, h.2 p hp⟩
theorem kerI_with {s : S66} (h : kerI s) (i : Nat) {p : S80} (hp : partI p) : kerI (withP s i p) := by
  obtain ⟨h1, h2, h3, h4, h5, h6, h7⟩ := kerR_iff.1 h.1
  refine ⟨kerR_iff.2 ⟨fun q hq => ?_, h2, by show s.f2.length = (s.f3.set i p).length; rw [List.length_set]; exact h3, by show (s.f3.set i p).length ≤ 4; rw [List.length_set]; exact h4, h5, h6, h7⟩, fun q hq => ?_⟩
  · rcases List.mem_or_eq_of_mem_set hq with hq | hq
    · exact h1 q hq
    · rw [hq]; exact hp.1
  · rcases List.mem_or_eq_of_mem_set hq with hq | hq
    · exact h.2 q hq
    · rw [hq]; exact hp.2
theorem kerI_lines {s : S66} (h : kerI s) {l : List S135} (hl : portR l = true) : kerI (linesP s l) := by
  obtain ⟨h1, h2, h3, h4, h5, h6, h7⟩ := kerR_iff.1 h.1
  exact ⟨kerR_iff.2 ⟨h1, h2, h3, h4, hl, h6, h7⟩, h.2⟩
theorem kerI_on {s : S66} (h : kerI s) {G : S80 → S85 → S46 → Int → S80 × Int} (hG : ∀ p f c, partI p → partI (G p f c s.f5).1) (c : S46) (h0 : 0 ≤ c.f0) (h1 : c.f0 < s.f3.length) : kerI (onS G s c).1 := by
  refine kerI_with h _ (hG _ _ _ ?_)
  rw [List.getD_eq_getElem?_getD, List.getElem?_eq_getElem (show c.f0.toNat < s.f3.length by omega), Option.getD_some]
  exact kerI_parts h (List.getElem_mem _)
theorem getD_mem135 {l : List S135} {i : Int} (h : ¬ (i < 0 ∨ (l.length : Int) ≤ i)) : l.getD i.toNat z135 ∈ l := by
  rw [List.getD_eq_getElem?_getD, List.getElem?_eq_getElem (show i.toNat < l.length by omega), Option.getD_some]; exact List.getElem_mem _
theorem portR_set {l : List S135} (h : portR l = true) (i : Nat) {x : S135} (hx : lineR x = true) : portR (l.set i x) = true := by
  obtain ⟨h1, h2⟩ := portR_iff.1 h
  refine portR_iff.2 ⟨fun y hy => ?_, by rw [List.length_set]; exact h2⟩
  rcases List.mem_or_eq_of_mem_set hy with hy | hy
  · exact h1 y hy
  · rw [hy]; exact hx
theorem portR_send {l : List S135} (h : portR l = true) (fr i v : Int) : portR (sendL l fr i v).1 = true := by
  unfold sendL
  split
  · exact h
  rename_i hi
  split
  · split
    · refine portR_set h _ ?_
      obtain ⟨a1, a2, a3, a4, a5⟩ := lineR_iff.1 ((portR_iff.1 h).1 _ (getD_mem135 hi))
      obtain ⟨b1, b2⟩ := ringR_push v a2
      exact lineR_iff.2 ⟨a1, b1, a3, by rw [show (S135.mk (l.getD i.toNat z135).f0 (pushR (l.getD i.toNat z135).f1 v).1 (l.getD i.toNat z135).f2).f1.f0.length = _ from b2]; exact a4, a5⟩
    · exact h
  · exact h
theorem portR_read {l : List S135} (h : portR l = true) (tt i : Int) : portR (readL l tt i).2.1 = true := by
  unfold readL
  split
  · exact h
  rename_i hi
  split
  · split
    · refine portR_set h _ ?_
      obtain ⟨a1, a2, a3, a4, a5⟩ := lineR_iff.1 ((portR_iff.1 h).1 _ (getD_mem135 hi))
      obtain ⟨b1, b2⟩ := ringR_pop a3
      exact lineR_iff.2 ⟨a1, a2, b1, a4, by rw [show (S135.mk (l.getD i.toNat z135).f0 (l.getD i.toNat z135).f1 (popR (l.getD i.toNat z135).f2).2.1).f2.f0.length = _ from b2]; exact a5⟩
    · exact h
  · exact h
theorem portR_dlv {l : List S135} (h : portR l = true) : portR (deliverL l) = true := by
  obtain ⟨h1, h2⟩ := portR_iff.1 h
  refine portR_iff.2 ⟨fun y hy => ?_, by rw [show (deliverL l).length = l.length by simp [deliverL]]; exact h2⟩
  obtain ⟨x, hx, rfl⟩ := List.mem_map.1 hy
  exact lineR_dlv _ (h1 x hx)
theorem portR_open (ps : List S91) : portR (openL ps).1 = true := by
  unfold openL
  split
  · rename_i h
    rw [Bool.and_eq_true, List.all_eq_true, decide_eq_true_iff] at h
    refine portR_iff.2 ⟨fun y hy => ?_, by rw [List.length_map]; exact h.2⟩
    obtain ⟨p, hp, rfl⟩ := List.mem_map.1 hy
    have hm := portM_iff.1 (h.1 p hp)
    have hl : (newR p.f2).f0.length = p.f2.toNat := by simp [newR]
    have hR : ringR (newR p.f2) = true := ringR_iff.2 ⟨by rw [hl]; omega, by show (0 : Int) ≤ 0; omega, by rw [hl]; show (0 : Int) < _; omega, by show (0 : Int) ≤ 0; omega, by rw [hl]; show (0 : Int) ≤ _; omega⟩
    exact lineR_iff.2 ⟨h.1 p hp, hR, hR, by show ((newR p.f2).f0.length : Int) = p.f2; rw [hl]; omega, by show ((newR p.f2).f0.length : Int) = p.f2; rw [hl]; omega⟩
  · exact portR_iff.2 ⟨by simp, by simp⟩
theorem kerI_do {s : S66} (h : kerI s) (c : S46) : kerI (doK s c).1 := by
  have hp := (kerR_iff.1 h.1).2.2.2.2.1
  obtain ⟨n0, n1⟩ := (kerR_iff.1 h.1).2.2.2.2.2.1
  unfold doK
  split
  · rename_i hc
    split
    · exact kerI_on h (fun p f c hp => partI_release hp _ _ _ n0 n1) c hc.1 hc.2
    split
    · exact kerI_on h (fun p f c hp => partI_addA hp _ _) c hc.1 hc.2
    split
    · exact kerI_on (G := doDrop) h (fun p f c hp => partI_leave hp _) c hc.1 hc.2
    split
    · exact kerI_on h (fun p f c hp => partI_change hp _ _ _) c hc.1 hc.2
    split
    · exact kerI_lines h (portR_send hp _ _ _)
    split
    · exact kerI_lines h (portR_read hp _ _)
    · exact h
  · exact h
theorem kerI_tick {s : S66} (h : kerI s) (hn : s.f5 + 1 ≤ 4611686018427387703) : kerI (tickK s).1 := by
  obtain ⟨h1, h2, h3, h4, h5, h6, h7⟩ := kerR_iff.1 h.1
  have hm : ∀ q ∈ tickPs (atI s.f0 s.f1 s.f5) s.f5 s.f3, partI q := fun q hq => by
    obtain ⟨i, hi, rfl⟩ := List.mem_mapIdx.1 hq
    exact partI_tick (kerI_parts h (List.getElem_mem _)) _ _
  refine ⟨kerR_iff.2 ⟨fun q hq => (hm q hq).1, h2, by show s.f2.length = (tickPs _ _ _).length; rw [tickPs_len]; exact h3, by show (tickPs _ _ _).length ≤ 4; rw [tickPs_len]; exact h4, ?_, ⟨by show 0 ≤ s.f5 + 1; omega, hn⟩, h7⟩, fun q hq => (hm q hq).2⟩
  show portR (tickLs s) = true
  unfold tickLs
  split
  · exact portR_dlv h5
  · exact h5
theorem kerI_boot {ps : List S87} {qs : List S91} (h : (bootK ps qs).2 = 0) : kerI (bootK ps qs).1 ∧ (bootK ps qs).1.f5 = 0 := by
  unfold bootK at h ⊢
  split
  · rename_i h1
    rw [if_pos h1] at h
    split
    · rename_i h2
      rw [if_pos h2] at h
      split
      · rename_i h3
        obtain ⟨p1, p2, p3, p4⟩ := imgR_parts h1
        have hm : ∀ q ∈ boots ps, partI q := fun q hq => by
          obtain ⟨p, hp, rfl⟩ := List.mem_map.1 hq
          unfold bootP
          split
          · exact partI_new (p2 p hp).2
          · exact partI_new (l := []) (by simp [taskA])
        refine ⟨⟨kerR_iff.2 ⟨fun q hq => (hm q hq).1, makeI_right _ p3 (by simp [faces]; omega) h2, by simp [faces, boots], by simp [boots]; omega, portR_open qs, ⟨by show (0 : Int) ≤ 0; omega, by show (0 : Int) ≤ _; omega⟩, p3⟩, fun q hq => (hm q hq).2⟩, rfl⟩
      · rename_i h3
        rw [if_neg h3] at h
        exact absurd h h3
    · rename_i h2
      rw [if_neg h2] at h
      exact absurd h h2
  · rename_i h1
    rw [if_neg h1] at h
    simp at h
abbrev nilV : Value := .slice none 0 0
theorem mkV (n : Nat) (hn : n ≤ 4) (W : World) : (Instr.makeSlice 26 (.int .i64 n) (.int .i64 n)).run Tryz.prog W = .ok (.slice (some ⟨W.heap.size, 0, none⟩) n n) (W.alloc (.cells (cellsV n (fun _ => nilV)).toArray 36)) := by
  obtain ⟨i0, hi, hzz⟩ := Option.map_eq_some_iff.1 row36.i
  simp only [Prod.mk.injEq] at hzz
  obtain ⟨hz0, hz1, hz2⟩ := hzz
  have hr := run_make (P := Tryz.prog) W 26 36 i0 (.agg #[.slice none 0 0, .slice none 0 0, .slice none 0 0]) row36.u hi hz0 .i64 .i64 (n : Int) (n : Int) (by omega) (by omega) (by rw [hz2]; omega) (by omega)
  simp only [Int.toNat_natCast] at hr
  rw [hz1] at hr
  rw [hr]
  have : n = 0 ∨ n = 1 ∨ n = 2 ∨ n = 3 ∨ n = 4 := by omega
  rcases this with rfl | rfl | rfl | rfl | rfl <;> congr 3 <;> kernel_rfl
theorem VW_made (W : World) (n : Nat) (base : Nat) (hb : base ≤ W.heap.size) : VW (W.alloc (.cells (cellsV n (fun _ => nilV)).toArray 36)) base W.heap.size n (fun _ => nilV) (List.replicate n z36) := by
  have hz : ∀ p, (List.replicate n z36).getD p z36 = z36 := fun p => by
    rw [List.getD_eq_getElem?_getD, List.getElem?_replicate]; split <;> rfl
  exact ⟨List.length_replicate, blk_new W _, hb, fun p _ => by rw [hz]; exact Kd.N_nil _ _ _ _ _, fun p _ => by rw [hz]; exact Kd.N_nil _ _ _ _ _, fun p _ => ⟨rfl, by rw [hz]; rfl⟩, fun i j _ _ _ k hk => by simp [Value.ownBlock] at hk, fun i _ h => by simp [Value.ownBlock] at h⟩
def askV (at_ : Int) (c : S46) (r : Int × Int) (vs : List S36) : List S36 :=
  if 0 ≤ c.f0 ∧ c.f0 < vs.length then vs.set c.f0.toNat ⟨(vs.getD c.f0.toNat z36).f0 ++ [⟨at_, r.1, r.2⟩], (vs.getD c.f0.toNat z36).f1, (vs.getD c.f0.toNat z36).f2⟩ else vs
def asksN (at_ : Int) (l : List S46) (q : S66 × List S36) : Nat → S66 × List S36
  | 0 => q
  | k + 1 => ((doK (asksN at_ l q k).1 (l.getD k z46)).1, askV at_ (l.getD k z46) (doK (asksN at_ l q k).1 (l.getD k z46)).2 (asksN at_ l q k).2)
def ranN (ran : List Int) (vs : List S36) : Nat → List S36
  | 0 => vs
  | p + 1 => (ranN ran vs p).set p ⟨((ranN ran vs p).getD p z36).f0, ((ranN ran vs p).getD p z36).f1 ++ [ran.getD p 0], ((ranN ran vs p).getD p z36).f2⟩
def stepK (at_ : Int) (l : List S46) (q : S66 × List S36) : S66 × List S36 := ((tickK (asksN at_ l q l.length).1).1, ranN (tickK (asksN at_ l q l.length).1).2 (asksN at_ l q l.length).2 (asksN at_ l q l.length).2.length)
def stepsN (scr : List (List S46)) (q : S66 × List S36) : Nat → S66 × List S36
  | 0 => q
  | i + 1 => stepK i (scr.getD i []) (stepsN scr q i)
def logN (s : S66) (vs : List S36) : Nat → List S36
  | 0 => vs
  | p + 1 => (logN s vs p).set p ⟨((logN s vs p).getD p z36).f0, ((logN s vs p).getD p z36).f1, (s.f3.getD p z80).f4⟩
def playS (s : S66) (scr : List (List S46)) : List S36 := logN (stepsN scr (s, List.replicate s.f3.length z36) scr.length).1 (stepsN scr (s, List.replicate s.f3.length z36) scr.length).2 s.f3.length
def playK (b : List Int) (scr : List (List S46)) : List S36 × Int :=
  if (decI b).2.2 = 0 then
    (if (bootK (decI b).1.1 (decI b).1.2).2 = 0 then
      (if mayS scr = true then (playS (bootK (decI b).1.1 (decI b).1.2).1 scr, 0) else ([], 5))
    else ([], (bootK (decI b).1.1 (decI b).1.2).2))
  else ([], (decI b).2.2)
theorem askV_len (at_ : Int) (c : S46) (r : Int × Int) (vs : List S36) : (askV at_ c r vs).length = vs.length := by
  unfold askV; split
  · exact List.length_set
  · rfl
theorem doK_len (s : S66) (c : S46) : (doK s c).1.f3.length = s.f3.length := by
  unfold doK
  split
  · split
    · exact List.length_set
    split
    · exact List.length_set
    split
    · exact List.length_set
    split
    · exact List.length_set
    split
    · rfl
    split <;> rfl
  · rfl
theorem asksN_len (at_ : Int) (l : List S46) (q : S66 × List S36) (k : Nat) : (asksN at_ l q k).1.f3.length = q.1.f3.length ∧ (asksN at_ l q k).2.length = q.2.length := by
  induction k with
  | zero => exact ⟨rfl, rfl⟩
  | succ k ih => exact ⟨(doK_len _ _).trans ih.1, (askV_len _ _ _ _).trans ih.2⟩
theorem asksN_I (at_ : Int) (l : List S46) {q : S66 × List S36} (h : kerI q.1) (k : Nat) : kerI (asksN at_ l q k).1 := by
  induction k with
  | zero => exact h
  | succ k ih => exact kerI_do ih _
theorem doK_now (s : S66) (c : S46) : (doK s c).1.f5 = s.f5 := by
  unfold doK
  split
  · split; · rfl
    split; · rfl
    split; · rfl
    split; · rfl
    split; · rfl
    split <;> rfl
  · rfl
theorem asksN_now (at_ : Int) (l : List S46) (q : S66 × List S36) (k : Nat) : (asksN at_ l q k).1.f5 = q.1.f5 := by
  induction k with
  | zero => rfl
  | succ k ih => exact (doK_now _ _).trans ih
theorem ranN_len (ran : List Int) (vs : List S36) (p : Nat) : (ranN ran vs p).length = vs.length := by
  induction p with
  | zero => rfl
  | succ p ih => exact List.length_set.trans ih
theorem logN_len (s : S66) (vs : List S36) (p : Nat) : (logN s vs p).length = vs.length := by
  induction p with
  | zero => rfl
  | succ p ih => exact List.length_set.trans ih
theorem stepK_len (at_ : Int) (l : List S46) (q : S66 × List S36) : (stepK at_ l q).1.f3.length = q.1.f3.length ∧ (stepK at_ l q).2.length = q.2.length :=
  ⟨(tickPs_len _ _ _).trans (asksN_len _ _ _ _).1, (ranN_len _ _ _).trans (asksN_len _ _ _ _).2⟩
theorem stepsN_len (scr : List (List S46)) (q : S66 × List S36) (i : Nat) : (stepsN scr q i).1.f3.length = q.1.f3.length ∧ (stepsN scr q i).2.length = q.2.length := by
  induction i with
  | zero => exact ⟨rfl, rfl⟩
  | succ i ih => exact ⟨(stepK_len _ _ _).1.trans ih.1, (stepK_len _ _ _).2.trans ih.2⟩
theorem stepsN_I (scr : List (List S46)) {q : S66 × List S36} (h : kerI q.1) (h0 : q.1.f5 = 0) (i : Nat) (hi : i ≤ 1000000) : kerI (stepsN scr q i).1 ∧ (stepsN scr q i).1.f5 = i := by
  induction i with
  | zero => exact ⟨h, h0⟩
  | succ i ih =>
    obtain ⟨h1, h2⟩ := ih (by omega)
    have h3 := asksN_I (i : Int) (scr.getD i []) h1 (scr.getD i []).length
    have h4 : (asksN (i : Int) (scr.getD i []) (stepsN scr q i) (scr.getD i []).length).1.f5 = i := (asksN_now _ _ _ _).trans h2
    exact ⟨kerI_tick h3 (by rw [h4]; omega), by show (asksN (i : Int) (scr.getD i []) (stepsN scr q i) (scr.getD i []).length).1.f5 + 1 = ((i + 1 : Nat) : Int); rw [h4]; omega⟩
theorem getD_set36a (vs : List S36) (p q : Nat) (v : S36) : (vs.set p v).getD q z36 = if q = p ∧ p < vs.length then v else vs.getD q z36 := by
  by_cases hp : p < vs.length
  · rw [getD_set36 _ _ _ _ hp]; simp [hp]
  · rw [List.set_eq_of_length_le (by omega), if_neg (fun h => hp h.2)]
theorem askV_bd (at_ : Int) (c : S46) (r : Int × Int) (vs : List S36) (p : Nat) : ((askV at_ c r vs).getD p z36).f0.length ≤ (vs.getD p z36).f0.length + 1 ∧ ((askV at_ c r vs).getD p z36).f1 = (vs.getD p z36).f1 := by
  unfold askV
  split
  · rw [getD_set36a]
    split
    · rename_i h; obtain ⟨rfl, -⟩ := h; exact ⟨by dsimp only; rw [List.length_append, List.length_singleton]; omega, rfl⟩
    · exact ⟨by omega, rfl⟩
  · exact ⟨by omega, rfl⟩
theorem asksN_bd (at_ : Int) (l : List S46) (q : S66 × List S36) (k p : Nat) : ((asksN at_ l q k).2.getD p z36).f0.length ≤ (q.2.getD p z36).f0.length + k ∧ ((asksN at_ l q k).2.getD p z36).f1 = (q.2.getD p z36).f1 := by
  induction k with
  | zero => exact ⟨Nat.le_refl _, rfl⟩
  | succ k ih =>
    obtain ⟨h1, h2⟩ := askV_bd at_ (l.getD k z46) (doK (asksN at_ l q k).1 (l.getD k z46)).2 (asksN at_ l q k).2 p
    exact ⟨by have := ih.1; show ((askV _ _ _ _).getD p z36).f0.length ≤ _; omega, h2.trans ih.2⟩
theorem ranN_bd (ran : List Int) (vs : List S36) (k p : Nat) : ((ranN ran vs k).getD p z36).f0 = (vs.getD p z36).f0 ∧ (k ≤ p → ((ranN ran vs k).getD p z36).f1 = (vs.getD p z36).f1) ∧ ((ranN ran vs k).getD p z36).f1.length ≤ (vs.getD p z36).f1.length + 1 := by
  induction k with
  | zero => exact ⟨rfl, fun _ => rfl, by show (vs.getD p z36).f1.length ≤ _; omega⟩
  | succ k ih =>
    obtain ⟨h1, h2, h3⟩ := ih
    show (((ranN ran vs k).set k _).getD p z36).f0 = _ ∧ (_ → (((ranN ran vs k).set k _).getD p z36).f1 = _) ∧ (((ranN ran vs k).set k _).getD p z36).f1.length ≤ _
    rw [getD_set36a]
    split
    · rename_i h; obtain ⟨rfl, -⟩ := h
      exact ⟨h1, fun hk => by omega, by dsimp only; rw [h2 (Nat.le_refl _), List.length_append, List.length_singleton]; omega⟩
    · exact ⟨h1, fun hk => h2 (by omega), h3⟩
theorem stepsN_bd (scr : List (List S46)) (q : S66 × List S36) (hs : ∀ x ∈ scr, x.length ≤ 100) (hq : ∀ p, (q.2.getD p z36).f0.length = 0 ∧ (q.2.getD p z36).f1.length = 0) (i p : Nat) : ((stepsN scr q i).2.getD p z36).f0.length ≤ 100 * i ∧ ((stepsN scr q i).2.getD p z36).f1.length ≤ i := by
  induction i with
  | zero => have := hq p; exact ⟨by show (q.2.getD p z36).f0.length ≤ _; omega, by show (q.2.getD p z36).f1.length ≤ _; omega⟩
  | succ i ih =>
    have hx : (scr.getD i []).length ≤ 100 := by
      rw [List.getD_eq_getElem?_getD]
      by_cases h : i < scr.length
      · rw [List.getElem?_eq_getElem h, Option.getD_some]; exact hs _ (List.getElem_mem h)
      · rw [List.getElem?_eq_none (by omega)]; simp
    obtain ⟨h1, h2⟩ := asksN_bd (i : Int) (scr.getD i []) (stepsN scr q i) (scr.getD i []).length p
    obtain ⟨h3, -, h4⟩ := ranN_bd (tickK (asksN (i : Int) (scr.getD i []) (stepsN scr q i) (scr.getD i []).length).1).2 (asksN (i : Int) (scr.getD i []) (stepsN scr q i) (scr.getD i []).length).2 (asksN (i : Int) (scr.getD i []) (stepsN scr q i) (scr.getD i []).length).2.length p
    show ((ranN _ _ _).getD p z36).f0.length ≤ _ ∧ ((ranN _ _ _).getD p z36).f1.length ≤ _
    rw [h3]
    rw [h2] at h4
    omega
theorem mayS_le {scr : List (List S46)} (h : mayS scr = true) : ∀ x ∈ scr, x.length ≤ 100 := by
  simp only [mayS, Bool.and_eq_true, List.all_eq_true, decide_eq_true_eq] at h
  exact h.1
theorem decI_len {b : List Int} (hb : ∀ x ∈ b, 0 ≤ x ∧ x ≤ 255) : (decI b).1.1.length ≤ 1000 ∧ (decI b).1.2.length ≤ 1000 := by
  have hh : ∀ s : Nat × Int, (bodI b s).1.1.length ≤ 1000 ∧ (bodI b s).1.2.length ≤ 1000 := fun s => ⟨Nat.le_trans (rowR_len hb (partD b) s) (by omega), Nat.le_trans (rowR_len hb (prtD b) _) (by omega)⟩
  unfold decI
  split
  · exact ⟨Nat.zero_le _, Nat.zero_le _⟩
  · split
    · split
      · exact ⟨Nat.zero_le _, Nat.zero_le _⟩
      · split
        · exact hh _
        · exact ⟨Nat.zero_le _, Nat.zero_le _⟩
    · exact ⟨Nat.zero_le _, Nat.zero_le _⟩
end Go.Proofs.YtmngaagojkihbaaGreat.FTop
