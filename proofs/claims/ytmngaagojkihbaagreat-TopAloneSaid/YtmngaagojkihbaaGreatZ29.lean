/- Contracts of functions that the statement TopAlone reaches, and plain lemmas. No condition. -/
import Derived.Test.YtmngaagojkihbaaGreatZ28
import Derived.Test.YtmngaagojkihbaaGreatZ02
import Derived.ChangeArms
import Derived.WideShapes
import Derived.ProofKit
namespace Go.Proofs.YtmngaagojkihbaaGreat.FTop
set_option linter.unusedVariables false
set_option linter.unusedSimpArgs false
def one (at_ : Int) (q : S66 × List S36) (c : S46) : S66 × List S36 := ((doK q.1 c).1, askV at_ c (doK q.1 c).2 q.2)
theorem asksN_fold (at_ : Int) (l : List S46) (q : S66 × List S36) (k : Nat) (hk : k ≤ l.length) : asksN at_ l q k = (l.take k).foldl (one at_) q := by
  induction k with
  | zero => rfl
  | succ k ih =>
    rw [List.take_succ_eq_append_getElem (by omega), List.foldl_append, ← ih (by omega)]
    have : l.getD k z46 = l[k] := by rw [List.getD_eq_getElem?_getD, List.getElem?_eq_getElem (by omega), Option.getD_some]
    show (_, _) = one at_ _ l[k]
    rw [this]; rfl
structure Lk (p : Nat) (x y : S135) : Prop where
  a : x.f0 = y.f0
  b : x.f1 = y.f1
  c : x.f0.f1 = (p : Int) → x.f2 = y.f2
structure Eqv (p : Nat) (q q' : S66 × List S36) : Prop where
  a0 : q.1.f0 = q'.1.f0
  a1 : q.1.f1 = q'.1.f1
  a2 : q.1.f2 = q'.1.f2
  a5 : q.1.f5 = q'.1.f5
  n3 : q.1.f3.length = q'.1.f3.length
  a3 : q.1.f3.getD p z80 = q'.1.f3.getD p z80
  n4 : q.1.f4.length = q'.1.f4.length
  a4 : ∀ i, Lk p (q.1.f4.getD i z135) (q'.1.f4.getD i z135)
  nv : q.2.length = q'.2.length
  av : q.2.getD p z36 = q'.2.getD p z36
theorem Lk.rfl' (p : Nat) (x : S135) : Lk p x x := ⟨rfl, rfl, fun _ => rfl⟩
theorem Eqv.rfl' (p : Nat) (q : S66 × List S36) : Eqv p q q := ⟨rfl, rfl, rfl, rfl, rfl, rfl, rfl, fun _ => Lk.rfl' _ _, rfl, rfl⟩
theorem Lk.symm {p : Nat} {x y : S135} (h : Lk p x y) : Lk p y x := ⟨h.a.symm, h.b.symm, fun hy => (h.c (by rw [h.a]; exact hy)).symm⟩
theorem Lk.trans {p : Nat} {x y z : S135} (h : Lk p x y) (g : Lk p y z) : Lk p x z := ⟨h.a.trans g.a, h.b.trans g.b, fun hx => (h.c hx).trans (g.c (by rw [← h.a]; exact hx))⟩
theorem Eqv.symm {p : Nat} {q q' : S66 × List S36} (h : Eqv p q q') : Eqv p q' q := ⟨h.a0.symm, h.a1.symm, h.a2.symm, h.a5.symm, h.n3.symm, h.a3.symm, h.n4.symm, fun i => (h.a4 i).symm, h.nv.symm, h.av.symm⟩
theorem Eqv.trans {p : Nat} {q q' q'' : S66 × List S36} (h : Eqv p q q') (g : Eqv p q' q'') : Eqv p q q'' := ⟨h.a0.trans g.a0, h.a1.trans g.a1, h.a2.trans g.a2, h.a5.trans g.a5, h.n3.trans g.n3, h.a3.trans g.a3, h.n4.trans g.n4, fun i => (h.a4 i).trans (g.a4 i), h.nv.trans g.nv, h.av.trans g.av⟩
theorem gset {α : Type} (l : List α) (p q : Nat) (v z : α) : (l.set p v).getD q z = if q = p ∧ p < l.length then v else l.getD q z := by
  rw [List.getD_eq_getElem?_getD, List.getD_eq_getElem?_getD, List.getElem?_set]
  by_cases h : p = q
  · subst h
    by_cases hl : p < l.length
    · simp [hl]
    · simp [hl]
  · rw [if_neg h, if_neg (fun hh => h hh.1.symm)]
theorem askV_at (at_ : Int) (c : S46) (r : Int × Int) {vs vs' : List S36} (p : Nat) (hn : vs.length = vs'.length) (h : vs.getD p z36 = vs'.getD p z36) : (askV at_ c r vs).getD p z36 = (askV at_ c r vs').getD p z36 := by
  unfold askV
  rw [← hn]
  split
  · rw [gset, gset, ← hn]
    split
    · rename_i h2; rw [← h2.1, h]
    · exact h
  · exact h
theorem askV_far (at_ : Int) (c : S46) (r : Int × Int) (vs : List S36) (p : Nat) (hp : c.f0 ≠ (p : Int)) : (askV at_ c r vs).getD p z36 = vs.getD p z36 := by
  unfold askV
  split
  · rw [gset, if_neg (fun h => hp (by omega))]
  · rfl
structure EqK (p : Nat) (s s' : S66) : Prop where
  a0 : s.f0 = s'.f0
  a1 : s.f1 = s'.f1
  a2 : s.f2 = s'.f2
  a5 : s.f5 = s'.f5
  n3 : s.f3.length = s'.f3.length
  a3 : s.f3.getD p z80 = s'.f3.getD p z80
  n4 : s.f4.length = s'.f4.length
  a4 : ∀ i, Lk p (s.f4.getD i z135) (s'.f4.getD i z135)
theorem Eqv.k {p : Nat} {q q' : S66 × List S36} (h : Eqv p q q') : EqK p q.1 q'.1 := ⟨h.a0, h.a1, h.a2, h.a5, h.n3, h.a3, h.n4, h.a4⟩
theorem EqK.v {p : Nat} {q q' : S66 × List S36} (h : EqK p q.1 q'.1) (nv : q.2.length = q'.2.length) (av : q.2.getD p z36 = q'.2.getD p z36) : Eqv p q q' := ⟨h.a0, h.a1, h.a2, h.a5, h.n3, h.a3, h.n4, h.a4, nv, av⟩
theorem onS_own {p : Nat} {s s' : S66} (G : S80 → S85 → S46 → Int → S80 × Int) (c : S46) (hc : c.f0 = (p : Int)) (h : EqK p s s') : EqK p (onS G s c).1 (onS G s' c).1 ∧ (onS G s c).2 = (onS G s' c).2 := by
  have e : c.f0.toNat = p := by omega
  have hv : G (s.f3.getD c.f0.toNat z80) (s.f2.getD c.f0.toNat z85) c s.f5 = G (s'.f3.getD c.f0.toNat z80) (s'.f2.getD c.f0.toNat z85) c s'.f5 := by rw [e, h.a3, h.a2, h.a5]
  refine ⟨⟨h.a0, h.a1, h.a2, h.a5, ?_, ?_, h.n4, h.a4⟩, ?_⟩
  · show (s.f3.set _ _).length = (s'.f3.set _ _).length
    rw [List.length_set, List.length_set]; exact h.n3
  · show (s.f3.set _ _).getD p z80 = (s'.f3.set _ _).getD p z80
    rw [hv, gset, gset, h.n3, h.a3]
  · show ((0 : Int), _) = ((0 : Int), _)
    rw [hv]
theorem onS_far {p : Nat} (s : S66) (G : S80 → S85 → S46 → Int → S80 × Int) (c : S46) (hc : c.f0 ≠ (p : Int)) (h0 : 0 ≤ c.f0) : EqK p s (onS G s c).1 := by
  refine ⟨rfl, rfl, rfl, rfl, ?_, ?_, rfl, fun _ => Lk.rfl' _ _⟩
  · exact List.length_set.symm
  · show _ = (s.f3.set _ _).getD p z80
    rw [gset, if_neg (fun h => hc (by omega))]
theorem sendL_eqv {p : Nat} {l l' : List S135} (fr i v : Int) (hn : l.length = l'.length) (h : ∀ i, Lk p (l.getD i z135) (l'.getD i z135)) : (sendL l fr i v).2 = (sendL l' fr i v).2 ∧ (sendL l fr i v).1.length = (sendL l' fr i v).1.length ∧ ∀ j, Lk p ((sendL l fr i v).1.getD j z135) ((sendL l' fr i v).1.getD j z135) := by
  unfold sendL
  rw [← hn]
  have e := h i.toNat
  split
  · exact ⟨rfl, hn, h⟩
  · rw [← e.a, ← e.b]
    split
    · split
      · refine ⟨rfl, by rw [List.length_set, List.length_set]; exact hn, fun j => ?_⟩
        rw [gset, gset, ← hn]
        split
        · exact ⟨rfl, rfl, fun hx => e.c hx⟩
        · exact h j
      · exact ⟨rfl, hn, h⟩
    · exact ⟨rfl, hn, h⟩
theorem readL_own {p : Nat} {l l' : List S135} (i : Int) (hn : l.length = l'.length) (h : ∀ i, Lk p (l.getD i z135) (l'.getD i z135)) : (readL l p i).1 = (readL l' p i).1 ∧ (readL l p i).2.2 = (readL l' p i).2.2 ∧ (readL l p i).2.1.length = (readL l' p i).2.1.length ∧ ∀ j, Lk p ((readL l p i).2.1.getD j z135) ((readL l' p i).2.1.getD j z135) := by
  unfold readL
  rw [← hn]
  have e := h i.toNat
  split
  · exact ⟨rfl, rfl, hn, h⟩
  · rw [← e.a]
    split
    · rename_i hp
      rw [← e.c hp, ← e.b]
      split
      · refine ⟨rfl, rfl, by rw [List.length_set, List.length_set]; exact hn, fun j => ?_⟩
        rw [gset, gset, ← hn]
        split
        · exact ⟨rfl, rfl, fun hx => rfl⟩
        · exact h j
      · exact ⟨rfl, rfl, hn, h⟩
    · exact ⟨rfl, rfl, hn, h⟩
theorem readL_far {p : Nat} (l : List S135) (tt i : Int) (ht : tt ≠ (p : Int)) : (readL l tt i).2.1.length = l.length ∧ ∀ j, Lk p (l.getD j z135) ((readL l tt i).2.1.getD j z135) := by
  unfold readL
  split
  · exact ⟨rfl, fun _ => Lk.rfl' _ _⟩
  · split
    · rename_i hp
      split
      · refine ⟨List.length_set, fun j => ?_⟩
        rw [gset]
        split
        · rename_i hj; rw [hj.1]; exact ⟨rfl, rfl, fun hx => absurd (hp.symm.trans hx) ht⟩
        · exact Lk.rfl' _ _
      · exact ⟨rfl, fun _ => Lk.rfl' _ _⟩
    · exact ⟨rfl, fun _ => Lk.rfl' _ _⟩
theorem sendS_eqv {p : Nat} {s s' : S66} (c : S46) (h : EqK p s s') : EqK p (sendS s c).1 (sendS s' c).1 ∧ (sendS s c).2 = (sendS s' c).2 := by
  obtain ⟨h1, h2, h3⟩ := sendL_eqv c.f0 c.f2 c.f3 h.n4 h.a4
  exact ⟨⟨h.a0, h.a1, h.a2, h.a5, h.n3, h.a3, h2, h3⟩, by show ((0 : Int), _) = ((0 : Int), _); rw [h1]⟩
theorem readS_own {p : Nat} {s s' : S66} (c : S46) (hc : c.f0 = (p : Int)) (h : EqK p s s') : EqK p (readS s c).1 (readS s' c).1 ∧ (readS s c).2 = (readS s' c).2 := by
  obtain ⟨h1, h2, h3, h4⟩ := readL_own c.f2 h.n4 h.a4
  rw [← hc] at h1 h2 h3 h4
  exact ⟨⟨h.a0, h.a1, h.a2, h.a5, h.n3, h.a3, h3, h4⟩, by show (_, _) = (_, _); rw [h1, h2]⟩
theorem readS_far {p : Nat} (s : S66) (c : S46) (hc : c.f0 ≠ (p : Int)) : EqK p s (readS s c).1 := by
  obtain ⟨h1, h2⟩ := readL_far s.f4 c.f0 c.f2 hc
  exact ⟨rfl, rfl, rfl, rfl, rfl, rfl, h1.symm, h2⟩
theorem doK_own {p : Nat} {s s' : S66} (c : S46) (hc : c.f0 = (p : Int) ∨ c.f1 = 2) (h : EqK p s s') : EqK p (doK s c).1 (doK s' c).1 ∧ (doK s c).2 = (doK s' c).2 := by
  unfold doK
  rw [← h.n3]
  split
  · by_cases h2 : c.f1 = 2
    · rw [h2]
      exact sendS_eqv c h
    · have hp : c.f0 = (p : Int) := hc.resolve_right h2
      split; · exact onS_own _ c hp h
      split; · exact onS_own _ c hp h
      split; · exact onS_own _ c hp h
      split; · exact onS_own _ c hp h
      split; · exact readS_own c hp h
      exact ⟨h, rfl⟩
  · exact ⟨h, rfl⟩
theorem EqK.rfl' (p : Nat) (s : S66) : EqK p s s := ⟨rfl, rfl, rfl, rfl, rfl, rfl, rfl, fun _ => Lk.rfl' _ _⟩
theorem doK_far {p : Nat} (s : S66) (c : S46) (hc : c.f0 ≠ (p : Int)) (h2 : c.f1 ≠ 2) : EqK p s (doK s c).1 := by
  unfold doK
  split
  · rename_i hh
    split; · exact onS_far s _ c hc hh.1
    split; · exact onS_far s _ c hc hh.1
    split; · exact onS_far s _ c hc hh.1
    split; · exact onS_far s _ c hc hh.1
    split; · exact readS_far s c hc
    exact EqK.rfl' _ _
  · exact EqK.rfl' _ _
theorem one_own {p : Nat} {q q' : S66 × List S36} (at_ : Int) (c : S46) (hc : ownC (p : Int) c = true) (h : Eqv p q q') : Eqv p (one at_ q c) (one at_ q' c) := by
  simp only [ownC, Bool.or_eq_true, decide_eq_true_eq] at hc
  obtain ⟨h1, h2⟩ := doK_own c hc h.k
  refine EqK.v (q := one at_ q c) (q' := one at_ q' c) h1 ?_ ?_
  · show (askV _ _ _ _).length = (askV _ _ _ _).length
    rw [askV_len, askV_len]; exact h.nv
  · show (askV _ _ (doK q.1 c).2 _).getD p z36 = (askV _ _ _ _).getD p z36
    rw [h2]; exact askV_at at_ c _ p h.nv h.av
theorem one_far {p : Nat} (q : S66 × List S36) (at_ : Int) (c : S46) (hc : ownC (p : Int) c = false) : Eqv p q (one at_ q c) := by
  simp only [ownC, Bool.or_eq_false_iff, decide_eq_false_iff_not] at hc
  exact EqK.v (q := q) (q' := one at_ q c) (doK_far q.1 c hc.1 hc.2) (askV_len _ _ _ _).symm (askV_far _ _ _ _ p hc.1).symm
theorem fold_own {p : Nat} (at_ : Int) (a : List S46) : ∀ {q q' : S66 × List S36}, Eqv p q q' → Eqv p (a.foldl (one at_) q) ((a.filter (ownC (p : Int))).foldl (one at_) q') := by
  induction a with
  | nil => intro q q' h; exact h
  | cons c a ih =>
    intro q q' h
    by_cases hc : ownC (p : Int) c = true
    · rw [List.filter_cons_of_pos hc]
      exact ih (one_own at_ c hc h)
    · rw [List.filter_cons_of_neg hc]
      exact ih ((one_far q at_ c (by simpa using hc)).symm.trans h)
theorem fold_far {p : Nat} (at_ : Int) (b : List S46) : ∀ {q q' : S66 × List S36}, Eqv p q q' → Eqv p q ((b.filter (othC (p : Int))).foldl (one at_) q') := by
  induction b with
  | nil => intro q q' h; exact h
  | cons c b ih =>
    intro q q' h
    by_cases hc : othC (p : Int) c = true
    · rw [List.filter_cons_of_pos hc]
      refine ih (h.trans (one_far q' at_ c ?_))
      simp only [othC, Bool.and_eq_true, Bool.not_eq_true', decide_eq_false_iff_not] at hc
      simp only [ownC, Bool.or_eq_false_iff, decide_eq_false_iff_not]
      exact hc
    · rw [List.filter_cons_of_neg hc]
      exact ih h
theorem asks_eqv {p : Nat} (at_ : Int) (a b : List S46) {q q' : S66 × List S36} (h : Eqv p q q') : Eqv p (asksN at_ a q a.length) (asksN at_ (mixAt p a b) q' (mixAt p a b).length) := by
  rw [asksN_fold _ _ _ _ (Nat.le_refl _), asksN_fold _ _ _ _ (Nat.le_refl _), List.take_length, List.take_length]
  show Eqv p _ ((a.filter (ownC (p : Int)) ++ b.filter (othC (p : Int))).foldl (one at_) q')
  rw [List.foldl_append]
  exact fold_far at_ b (fold_own at_ a h)
theorem dlv_eqv {p : Nat} (k : Nat) : ∀ {x y : S135}, Lk p x y → Lk p (dlv k x) (dlv k y) := by
  induction k with
  | zero => intro x y h; exact h
  | succ k ih =>
    intro x y h
    refine ih ⟨h.a, ?_, fun hx => ?_⟩
    · show (popR x.f1).2.1 = (popR y.f1).2.1
      rw [h.b]
    · show putR x.f2 _ = putR y.f2 _
      rw [h.b, h.c hx]
theorem getD_map135 (l : List S135) (i : Nat) : (deliverL l).getD i z135 = if i < l.length then dlvX (l.getD i z135) else z135 := by
  unfold deliverL
  by_cases h : i < l.length
  · rw [if_pos h, List.getD_eq_getElem?_getD, List.getD_eq_getElem?_getD, List.getElem?_map, List.getElem?_eq_getElem h]; rfl
  · rw [if_neg h, List.getD_eq_getElem?_getD, List.getElem?_map, List.getElem?_eq_none (by omega)]; rfl
theorem deliver_eqv {p : Nat} {l l' : List S135} (hn : l.length = l'.length) (h : ∀ i, Lk p (l.getD i z135) (l'.getD i z135)) (i : Nat) : Lk p ((deliverL l).getD i z135) ((deliverL l').getD i z135) := by
  rw [getD_map135, getD_map135, ← hn]
  split
  · have e := h i
    unfold dlvX
    rw [← e.b]
    exact dlv_eqv _ e
  · exact Lk.rfl' _ _
theorem tickPs_at (wh now : Int) (ps : List S80) (p : Nat) : (tickPs wh now ps).getD p z80 = if p < ps.length then (tickP (ps.getD p z80) ((p : Int) == wh) now).1 else z80 := by
  unfold tickPs
  by_cases h : p < ps.length
  · rw [if_pos h, List.getD_eq_getElem?_getD, List.getD_eq_getElem?_getD, List.getElem?_mapIdx, List.getElem?_eq_getElem h]; rfl
  · rw [if_neg h, List.getD_eq_getElem?_getD, List.getElem?_mapIdx, List.getElem?_eq_none (by omega)]; rfl
theorem tickRan_at (wh now : Int) (ps : List S80) (p : Nat) : (tickRan wh now ps).getD p 0 = if p < ps.length then (tickP (ps.getD p z80) ((p : Int) == wh) now).2 else 0 := by
  unfold tickRan
  by_cases h : p < ps.length
  · rw [if_pos h, List.getD_eq_getElem?_getD, List.getD_eq_getElem?_getD, List.getElem?_mapIdx, List.getElem?_eq_getElem h]; rfl
  · rw [if_neg h, List.getD_eq_getElem?_getD, List.getElem?_mapIdx, List.getElem?_eq_none (by omega)]; rfl
theorem tick_eqv {p : Nat} {s s' : S66} (h : EqK p s s') : EqK p (tickK s).1 (tickK s').1 ∧ (tickK s).2.getD p 0 = (tickK s').2.getD p 0 := by
  refine ⟨⟨h.a0, h.a1, h.a2, ?_, ?_, ?_, ?_, ?_⟩, ?_⟩
  · show s.f5 + 1 = s'.f5 + 1
    rw [h.a5]
  · show (tickPs _ _ _).length = (tickPs _ _ _).length
    rw [tickPs_len, tickPs_len, h.n3]
  · show (tickPs (atI s.f0 s.f1 s.f5) s.f5 s.f3).getD p z80 = (tickPs (atI s'.f0 s'.f1 s'.f5) s'.f5 s'.f3).getD p z80
    rw [tickPs_at, tickPs_at, h.a0, h.a1, h.a5, h.n3, h.a3]
  · show (tickLs s).length = (tickLs s').length
    unfold tickLs
    rw [h.a0, h.a5]
    split
    · show (List.map _ _).length = (List.map _ _).length
      rw [List.length_map, List.length_map, h.n4]
    · exact h.n4
  · intro i
    show Lk p ((tickLs s).getD i z135) ((tickLs s').getD i z135)
    unfold tickLs
    rw [h.a0, h.a5]
    split
    · exact deliver_eqv h.n4 h.a4 i
    · exact h.a4 i
  · show (tickRan (atI s.f0 s.f1 s.f5) s.f5 s.f3).getD p 0 = (tickRan (atI s'.f0 s'.f1 s'.f5) s'.f5 s'.f3).getD p 0
    rw [tickRan_at, tickRan_at, h.a0, h.a1, h.a5, h.n3, h.a3]
theorem ranN_at (ran : List Int) (vs : List S36) (k p : Nat) : (ranN ran vs k).getD p z36 = if p < k ∧ p < vs.length then ⟨(vs.getD p z36).f0, (vs.getD p z36).f1 ++ [ran.getD p 0], (vs.getD p z36).f2⟩ else vs.getD p z36 := by
  induction k with
  | zero => simp [ranN]
  | succ k ih =>
    show ((ranN ran vs k).set k _).getD p z36 = _
    rw [gset, ranN_len]
    by_cases h : p = k
    · subst h
      by_cases hl : p < vs.length
      · rw [if_pos ⟨rfl, hl⟩, if_pos ⟨by omega, hl⟩]
        have e : (ranN ran vs p).getD p z36 = vs.getD p z36 := by rw [ih, if_neg (fun h => by omega)]
        rw [e]
      · rw [if_neg (fun h => hl h.2), if_neg (fun h => hl h.2), ih, if_neg (fun h => hl h.2)]
    · rw [if_neg (fun hh => h hh.1), ih]
      by_cases hk : p < k
      · simp only [hk, true_and, show p < k + 1 from by omega]
      · rw [if_neg (fun hh => hk hh.1), if_neg (fun hh => by omega)]
theorem step_eqv {p : Nat} (at_ : Int) (a b : List S46) {q q' : S66 × List S36} (h : Eqv p q q') : Eqv p (stepK at_ a q) (stepK at_ (mixAt p a b) q') := by
  have h1 := asks_eqv at_ a b h
  obtain ⟨h2, h3⟩ := tick_eqv h1.k
  refine EqK.v (q := stepK at_ a q) (q' := stepK at_ (mixAt p a b) q') h2 ?_ ?_
  · show (ranN _ _ _).length = (ranN _ _ _).length
    rw [ranN_len, ranN_len]; exact h1.nv
  · show (ranN _ _ _).getD p z36 = (ranN _ _ _).getD p z36
    rw [ranN_at, ranN_at, h3, h1.nv, h1.av]
theorem scr_mix (p : Int) (l m : List S41) (i : Nat) (hi : i < l.length) : (scrL (mixL p l m)).getD i [] = mixAt p ((scrL l).getD i []) (m.getD i z41).f0 := by
  have e1 : (scrL l).getD i [] = (l.getD i z41).f0 := by
    unfold scrL
    rw [List.getD_eq_getElem?_getD, List.getD_eq_getElem?_getD, List.getElem?_map, List.getElem?_eq_getElem hi]; rfl
  rw [e1]
  unfold scrL mixL
  rw [List.getD_eq_getElem?_getD, List.getElem?_map, List.getElem?_map, List.getElem?_range hi]; rfl
theorem steps_eqv {p : Nat} (l m : List S41) {q q' : S66 × List S36} (h : Eqv p q q') (i : Nat) (hi : i ≤ l.length) : Eqv p (stepsN (scrL l) q i) (stepsN (scrL (mixL p l m)) q' i) := by
  induction i with
  | zero => exact h
  | succ i ih =>
    show Eqv p (stepK i _ _) (stepK i _ _)
    rw [scr_mix _ _ _ _ (by omega)]
    exact step_eqv _ _ _ (ih (by omega))
theorem logN_at (s : S66) (vs : List S36) (k p : Nat) : (logN s vs k).getD p z36 = if p < k ∧ p < vs.length then ⟨(vs.getD p z36).f0, (vs.getD p z36).f1, (s.f3.getD p z80).f4⟩ else vs.getD p z36 := by
  induction k with
  | zero => simp [logN]
  | succ k ih =>
    show ((logN s vs k).set k _).getD p z36 = _
    rw [gset, logN_len]
    by_cases h : p = k
    · subst h
      by_cases hl : p < vs.length
      · rw [if_pos ⟨rfl, hl⟩, if_pos ⟨by omega, hl⟩]
        have e : (logN s vs p).getD p z36 = vs.getD p z36 := by rw [ih, if_neg (fun h => by omega)]
        rw [e]
      · rw [if_neg (fun h => hl h.2), if_neg (fun h => hl h.2), ih, if_neg (fun h => hl h.2)]
    · rw [if_neg (fun hh => h hh.1), ih]
      by_cases hk : p < k
      · simp only [hk, true_and, show p < k + 1 from by omega]
      · rw [if_neg (fun hh => hk hh.1), if_neg (fun hh => by omega)]
theorem play_at (s : S66) (l m : List S41) (p : Nat) : (playS s (scrL l)).getD p z36 = (playS s (scrL (mixL p l m))).getD p z36 := by
  have hl : (scrL (mixL p l m)).length = (scrL l).length := by rw [show (scrL (mixL p l m)).length = (mixL p l m).length from List.length_map .., mixL_len]; exact (List.length_map ..).symm
  have h := steps_eqv l m (Eqv.rfl' p (s, List.replicate s.f3.length z36)) (scrL l).length (by rw [show (scrL l).length = l.length from List.length_map ..]; exact Nat.le_refl _)
  unfold playS
  rw [hl, logN_at, logN_at, h.nv, h.av, h.a3]
theorem play_len (s : S66) (scr : List (List S46)) : (playS s scr).length = s.f3.length := by
  unfold playS
  rw [logN_len, (stepsN_len _ _ _).2]
  exact List.length_replicate
theorem may_few {l : List S41} (h : fewP l) : mayS (scrL l) = true := by
  simp only [mayS, Bool.and_eq_true, List.all_eq_true, decide_eq_true_eq]
  refine ⟨fun x hx => ?_, ?_⟩
  · obtain ⟨s, hs, rfl⟩ := List.mem_map.1 hx
    have := h.2 s hs; omega
  · have := h.1
    rw [show (scrL l).length = l.length from List.length_map ..]; omega
theorem may_mix (p : Int) {l m : List S41} (h : fewP l) (hm : fewP m) : mayS (scrL (mixL p l m)) = true := by
  have hg : ∀ {k : List S41}, fewP k → ∀ i, (k.getD i z41).f0.length ≤ 10 := fun {k} hk i => by
    rw [List.getD_eq_getElem?_getD]
    by_cases hi : i < k.length
    · rw [List.getElem?_eq_getElem hi, Option.getD_some]; exact hk.2 _ (List.getElem_mem hi)
    · rw [List.getElem?_eq_none (by omega)]; exact Nat.zero_le _
  simp only [mayS, Bool.and_eq_true, List.all_eq_true, decide_eq_true_eq]
  refine ⟨fun x hx => ?_, ?_⟩
  · obtain ⟨s, hs, rfl⟩ := List.mem_map.1 hx
    obtain ⟨i, hi, rfl⟩ := List.mem_map.1 hs
    show (List.filter _ _ ++ List.filter _ _).length ≤ 100
    rw [List.length_append]
    have h1 := List.length_filter_le (ownC p) (l.getD i z41).f0
    have h2 := List.length_filter_le (othC p) (m.getD i z41).f0
    have := hg h i; have := hg hm i
    omega
  · have := h.1
    rw [show (scrL (mixL p l m)).length = (mixL p l m).length from List.length_map .., mixL_len]; omega
theorem aloneP (b : List Int) (l m : List S41) (p : Int) : AloneP b l m p := by
  intro hl hm
  have m1 := may_few hl
  have m2 := may_mix p hl hm
  unfold playK
  split
  · split
    · refine ⟨rfl, by rw [play_len, play_len], fun h0 _ => ?_⟩
      obtain ⟨n, rfl⟩ := Int.eq_ofNat_of_zero_le h0
      rw [Int.toNat_natCast]
      exact play_at _ l m n
    · exact ⟨rfl, rfl, fun _ _ => rfl⟩
  · exact ⟨rfl, rfl, fun _ _ => rfl⟩
end Go.Proofs.YtmngaagojkihbaaGreat.FTop
namespace Go.Proofs.YtmngaagojkihbaaGreatX
open Go.RowKit Go.Proofs.YtmngaagojkihbaaGreatW.PrintWords Go.Proofs.YtmngaagojkihbaaGreatW.PrintLast Go.Proofs.YtmngaagojkihbaaGreatW.PrintMore
set_option linter.unusedVariables false
set_option linter.unusedSimpArgs false
def Lifts {α : Type} (P : Program) (d : Kd α) (t : TypeId) (good : α → Prop) : Prop :=
  ∀ (H : Type) (enc : TypeId × Value → H) (w : World) (base : Nat) (spare : Nat → Bool) (held : Bool) (fuel : Nat) (cs : List Value) (x : DataW H × List MemPlace),
    DataW.trod enc P w base spare held fuel t cs = some x → ∃ a : α, d.K w a cs ∧ good a
theorem lift_int {P : Program} {t : TypeId} {k : IntKind} (hu : P.underlying t = some (.int k)) : Lifts P (Kd.int k) t (fun n => (Lit.int k n).wf = true) := by
  intro H enc w base spare held fuel cs x h
  obtain ⟨n, hc, _, hw⟩ := DataW.trod_int hu h
  exact ⟨n, hc, hw⟩
theorem cells_get {w : World} {base : Nat} {a : Addr} {n : Nat} {cs : List Value} (h : w.cells? base a n = some cs) : cs.length = n ∧ ∀ i u, cs[i]? = some u → w.cell? (a.add i) = some u := by
  unfold World.cells? at h
  split at h
  · have hl := mapM_some_length h
    refine ⟨by simpa using hl, fun i u hi => ?_⟩
    have hlt : i < n := by
      have := (List.getElem?_eq_some_iff.1 hi).1
      simp at hl
      omega
    have := mapM_some_get h i i (by simp [hlt])
    rw [this, hi]
  · cases h
theorem lift_slice {α : Type} {P : Program} {d : Kd α} {t e : TypeId} {good : α → Prop} (hu : P.underlying t = some (.slice e)) (hsz : P.cellsOf e = d.sz) (hd : Lifts P d e good) :
    Lifts P (Kd.slice e d) t (fun l => l.length ≤ 9223372036854775807 ∧ ∀ x ∈ l, good x) := by
  intro H enc w base spare held fuel cs x h
  rcases DataW.trod_slice hu h with ⟨rfl, _⟩ | ⟨a, len, cap, elems, rest, n, _, rfl, _, hb, hl, hm, hel, hat, _⟩
  · exact ⟨[], ⟨none, 0, rfl, Nat.le_refl _, Kd.C_nil d w⟩, by simp, by simp⟩
  · have hone : ∀ i : Fin len, ∃ p : α × List Value, d.K w p.1 p.2 ∧ good p.1 ∧ p.2.length = d.sz ∧ ∀ j u, p.2[j]? = some u → w.cell? (a.add (i.1 * d.sz + j)) = some u := by
      intro ⟨i, hi⟩
      have h1 := hat i hi
      have h2 : elems[i]? = some elems[i] := List.getElem?_eq_getElem (by omega)
      rw [h2] at h1
      obtain ⟨cs', h3, h4⟩ := Option.bind_eq_some_iff.1 h1
      obtain ⟨b, h5, h6⟩ := hd H enc w base spare held n cs' _ h4
      obtain ⟨h7, h8⟩ := cells_get h3
      refine ⟨(b, cs'), h5, h6, by rw [h7]; exact hsz, fun j u hj => ?_⟩
      have h9 := h8 j u hj
      rw [hsz] at h9
      have ha : (a.add (i * d.sz)).add j = a.add (i * d.sz + j) := by
        unfold Addr.add
        by_cases h1 : i * d.sz = 0 <;> by_cases h2 : j = 0 <;> simp [h1, h2, Nat.add_assoc]
      rw [← ha]
      exact h9
    let f : Fin len → α × List Value := fun i => Classical.choose (hone i)
    have hf : ∀ i, d.K w (f i).1 (f i).2 ∧ good (f i).1 ∧ (f i).2.length = d.sz ∧ ∀ j u, (f i).2[j]? = some u → w.cell? (a.add (i.1 * d.sz + j)) = some u := fun i => Classical.choose_spec (hone i)
    refine ⟨List.ofFn (fun i => (f i).1), ⟨some a, cap, by rw [List.length_ofFn], by rw [List.length_ofFn]; exact hl, rfl, ?_, fun _ => ⟨a, rfl, ?_⟩⟩, ?_, ?_⟩
    · rw [List.length_ofFn]; unfold maxLen at hm; omega
    · intro j p hp
      rw [List.getElem?_ofFn] at hp
      split at hp
      · rename_i hj
        injection hp with hp
        subst hp
        obtain ⟨h1, _, h3, h4⟩ := hf ⟨j, hj⟩
        exact ⟨_, h3, h1, h4⟩
      · cases hp
    · rw [List.length_ofFn]; unfold maxLen at hm; omega
    · intro y hy
      rw [List.mem_ofFn] at hy
      obtain ⟨i, rfl⟩ := hy
      exact (hf i).2.1
def LiftsAt {α : Type} (P : Program) (d : Kd α) (fs : List Field) (o : Nat) (good : α → Prop) : Prop :=
  ∀ (H : Type) (enc : TypeId × Value → H) (w : World) (base : Nat) (spare : Nat → Bool) (held : Bool) (fuel : Nat) (cs : List Value),
    (∀ f ∈ fs, ∃ x, DataW.trod enc P w base spare held fuel f.type ((cs.drop f.offset).take (P.cellsOf f.type)) = some x) → ∃ a : α, d.K w a ((cs.drop o).take d.sz) ∧ good a
theorem lift_last {α : Type} {P : Program} {d : Kd α} {f : Field} {o : Nat} {good : α → Prop} (ho : f.offset = o) (hsz : P.cellsOf f.type = d.sz) (hd : Lifts P d f.type good) : LiftsAt P d [f] o good := by
  intro H enc w base spare held fuel cs h
  obtain ⟨x, hx⟩ := h f (by simp)
  rw [ho, hsz] at hx
  exact hd H enc w base spare held fuel _ x hx
theorem lift_cons {α β : Type} {P : Program} {d : Kd α} {d' : Kd β} {f : Field} {fs : List Field} {o o' : Nat} {good : α → Prop} {good' : β → Prop} (ho : f.offset = o) (hsz : P.cellsOf f.type = d.sz) (hd : Lifts P d f.type good)
    (ho' : o + d.sz = o') (hd' : LiftsAt P d' fs o' good') : LiftsAt P (Kd.pair d d') (f :: fs) o (fun p => good p.1 ∧ good' p.2) := by
  intro H enc w base spare held fuel cs h
  obtain ⟨x, hx⟩ := h f (by simp)
  rw [ho, hsz] at hx
  obtain ⟨a, ha, ga⟩ := hd H enc w base spare held fuel _ x hx
  obtain ⟨b, hb, gb⟩ := hd' H enc w base spare held fuel cs (fun g hg => h g (by simp [hg]))
  refine ⟨(a, b), ⟨_, _, ?_, ha, hb⟩, ga, gb⟩
  show (cs.drop o).take (d.sz + d'.sz) = _
  rw [List.take_add, List.drop_drop, ho']
theorem lift_struct {α : Type} {P : Program} {d : Kd α} {t : TypeId} {fs : Array Field} {good : α → Prop} (hu : P.underlying t = some (.struct fs)) (hC : P.cellsOf t = d.sz) (hd : LiftsAt P d fs.toList 0 good) : Lifts P d t good := by
  intro H enc w base spare held fuel cs x h
  obtain ⟨xs, n, _, _, hl, hxs, hat⟩ := DataW.trod_struct hu h
  obtain ⟨a, ha, ga⟩ := hd H enc w base spare held n cs (fun f hf => by
    obtain ⟨i, hi⟩ := List.getElem?_of_mem hf
    have hi' : fs[i]? = some f := by simpa using hi
    have h1 := hat i f hi'
    have hlt : i < xs.length := by
      have := (Array.getElem?_eq_some_iff.1 hi').1
      omega
    rw [List.getElem?_eq_getElem hlt] at h1
    exact ⟨_, h1⟩)
  refine ⟨a, ?_, ga⟩
  have : (cs.drop 0).take d.sz = cs := by rw [List.drop_zero, List.take_of_length_le (by omega)]
  rw [this] at ha
  exact ha
theorem lift_iso {α β : Type} {P : Program} {d : Kd α} {t : TypeId} {good : α → Prop} (f : β → α) (g : α → β) (hfg : ∀ x, f (g x) = x) (hd : Lifts P d t good) : Lifts P (Kd.iso d f) t (fun y => good (f y)) := by
  intro H enc w base spare held fuel cs x h
  obtain ⟨a, ha, ga⟩ := hd H enc w base spare held fuel cs x h
  refine ⟨g a, ?_, ?_⟩
  · show d.K w (f (g a)) cs
    rw [hfg]
    exact ha
  · show good (f (g a))
    rw [hfg]
    exact ga
end Go.Proofs.YtmngaagojkihbaaGreatX
