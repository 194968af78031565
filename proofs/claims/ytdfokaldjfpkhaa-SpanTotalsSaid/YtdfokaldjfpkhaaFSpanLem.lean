/- What the functions of package span, and of its reference, come to: lemmas for the statements of layer 4. No condition. -/
import Derived.Test.YtdfokaldjfpkhaaFSpanx0
import Derived.Test.YtdfokaldjfpkhaaFSpanx2
import Derived.Test.YtdfokaldjfpkhaaFSpanx3
import Derived.Test.YtdfokaldjfpkhaaFSpanx4
import Derived.Test.YtdfokaldjfpkhaaFSpanx5
import Derived.Test.YtdfokaldjfpkhaaFSpanx6
import Derived.Test.YtdfokaldjfpkhaaFSpanx7
import Derived.Test.YtdfokaldjfpkhaaFSpanx8
import Derived.Test.YtdfokaldjfpkhaaFSpanx9
import Derived.Test.YtdfokaldjfpkhaaFSpanx10
namespace Go.Proofs.Ytdfokaldjfpkhaa.SpanLem
open Go.RowKit Go.Proofs.Ytdfokaldjfpkhaa.FSpan Go.Proofs.YtdfokaldjfpkhaaW.PrintWords Go.Proofs.YtdfokaldjfpkhaaW.PrintLast
set_option linter.unusedSimpArgs false
set_option linter.unusedVariables false

theorem w64 {n : Int} (h1 : -9223372036854775808 ≤ n) (h2 : n ≤ 9223372036854775807) : wrap64 n = n := by unfold wrap64; omega
theorem wf64 {a : Int} (h : (Lit.int .i64 a).wf = true) : -9223372036854775808 ≤ a ∧ a ≤ 9223372036854775807 := by
  simp [Lit.wf, IntKind.min, IntKind.max, IntKind.signed, IntKind.bits] at h
  omega
theorem knows_ev : ∃ K, ∀ k, K ≤ k → remontoirlaw04_knows.f k = some true := Ev.of (fun k => remontoirlaw04_knows.mono k) (k := 60) (by kernel_rfl)

/-! ### Spans, in plain words -/
def May (x : S29) : Prop := 0 ≤ x.f0 ∧ x.f0 < x.f1 ∧ x.f1 ≤ 4611686018427387903
instance (x : S29) : Decidable (May x) := by unfold May; infer_instance
def In (l : List S29) (t : Int) : Prop := ∃ x ∈ l, May x ∧ x.f0 ≤ t ∧ t < x.f1
instance (l : List S29) (t : Int) : Decidable (In l t) := by unfold In; infer_instance
def Right (l : List S29) : Prop := (∀ x ∈ l, May x) ∧ l.Pairwise (fun a b => a.f1 < b.f0)
theorem in_nil (t : Int) : ¬ In [] t := fun ⟨_, h, _⟩ => absurd h (by simp)
theorem in_cons (x : S29) (l : List S29) (t : Int) : In (x :: l) t ↔ (May x ∧ x.f0 ≤ t ∧ t < x.f1) ∨ In l t := by
  unfold In; simp
theorem in_append (a b : List S29) (t : Int) : In (a ++ b) t ↔ In a t ∨ In b t := by
  unfold In; simp only [List.mem_append]
  constructor
  · rintro ⟨x, h | h, r⟩
    · exact .inl ⟨x, h, r⟩
    · exact .inr ⟨x, h, r⟩
  · rintro (⟨x, h, r⟩ | ⟨x, h, r⟩)
    · exact ⟨x, .inl h, r⟩
    · exact ⟨x, .inr h, r⟩
theorem in_mem {a b : List S29} (h : ∀ x, May x → (x ∈ a ↔ x ∈ b)) (t : Int) : In a t ↔ In b t := by
  unfold In
  constructor
  · rintro ⟨x, hx, hm, r⟩; exact ⟨x, (h x hm).1 hx, hm, r⟩
  · rintro ⟨x, hx, hm, r⟩; exact ⟨x, (h x hm).2 hx, hm, r⟩
theorem right_tail {x : S29} {l : List S29} (h : Right (x :: l)) : Right l := ⟨fun y hy => h.1 y (List.mem_cons_of_mem _ hy), (List.pairwise_cons.1 h.2).2⟩
/-- Rows that have the same ticks are the same. -/
theorem right_unique : ∀ {a b : List S29}, Right a → Right b → (∀ t, In a t ↔ In b t) → a = b
  | [], [], _, _, _ => rfl
  | [], y :: b, _, hb, h => by
    have hy := hb.1 y (by simp)
    exact absurd ((h y.f0).2 ((in_cons _ _ _).2 (.inl ⟨hy, Int.le_refl _, hy.2.1⟩))) (in_nil _)
  | x :: a, [], ha, _, h => by
    have hx := ha.1 x (by simp)
    exact absurd ((h x.f0).1 ((in_cons _ _ _).2 (.inl ⟨hx, Int.le_refl _, hx.2.1⟩))) (in_nil _)
  | x :: a, y :: b, ha, hb, h => by
    have hx := ha.1 x (by simp)
    have hy := hb.1 y (by simp)
    have ha2 := (List.pairwise_cons.1 ha.2).1
    have hb2 := (List.pairwise_cons.1 hb.2).1
    have lo : ∀ {x : S29} {a : List S29} {t : Int}, (∀ z ∈ a, x.f1 < z.f0) → May x → In a t → x.f1 < t := by
      rintro x a t h1 h2 ⟨z, hz, hm, h3, h4⟩
      have := h1 z hz; omega
    have e0 : x.f0 = y.f0 := by
      have h1 := (h x.f0).1 ((in_cons _ _ _).2 (.inl ⟨hx, Int.le_refl _, hx.2.1⟩))
      have h2 := (h y.f0).2 ((in_cons _ _ _).2 (.inl ⟨hy, Int.le_refl _, hy.2.1⟩))
      rw [in_cons] at h1 h2
      have h3 : y.f0 ≤ x.f0 := by
        rcases h1 with h1 | h1
        · exact h1.2.1
        · have := lo hb2 hy h1; unfold May at hy; omega
      have h4 : x.f0 ≤ y.f0 := by
        rcases h2 with h2 | h2
        · exact h2.2.1
        · have := lo ha2 hx h2; unfold May at hx; omega
      omega
    have e1 : x.f1 = y.f1 := by
      rcases Int.lt_trichotomy x.f1 y.f1 with hlt | heq | hgt
      · have h1 := (h x.f1).2 ((in_cons _ _ _).2 (.inl ⟨hy, by unfold May at hx; omega, hlt⟩))
        rw [in_cons] at h1
        rcases h1 with h1 | h1
        · omega
        · have := lo ha2 hx h1; omega
      · exact heq
      · have h1 := (h y.f1).1 ((in_cons _ _ _).2 (.inl ⟨hx, by unfold May at hy; omega, hgt⟩))
        rw [in_cons] at h1
        rcases h1 with h1 | h1
        · omega
        · have := lo hb2 hy h1; omega
    have e : x = y := by cases x; cases y; simp_all
    subst e
    congr 1
    refine right_unique (right_tail ha) (right_tail hb) (fun t => ?_)
    have ht := h t
    rw [in_cons, in_cons] at ht
    constructor
    · intro hi
      have := lo ha2 hx hi
      rcases ht.1 (.inr hi) with h1 | h1
      · omega
      · exact h1
    · intro hi
      have := lo hb2 hx hi
      rcases ht.2 (.inr hi) with h1 | h1
      · omega
      · exact h1

/-! ### insert, Norm -/
def ins : List S29 → S29 → List S29
  | [], x => [x]
  | a :: s, x => if a.f0 ≤ x.f0 then a :: ins s x else x :: a :: s
theorem ins_mem (y : S29) : ∀ (s : List S29) (x : S29), y ∈ ins s x ↔ y = x ∨ y ∈ s
  | [], x => by simp [ins]
  | a :: s, x => by
    unfold ins
    split
    · rw [List.mem_cons, ins_mem y s x, List.mem_cons]
      constructor
      · rintro (h | h | h) <;> simp [h]
      · rintro (h | h | h) <;> simp [h]
    · simp
theorem ins_len : ∀ (s : List S29) (x : S29), (ins s x).length = s.length + 1
  | [], x => rfl
  | a :: s, x => by
    unfold ins
    split
    · simp [ins_len s x]
    · simp
theorem ins_sorted : ∀ (s : List S29) (x : S29), s.Pairwise (fun a b => a.f0 ≤ b.f0) → (ins s x).Pairwise (fun a b => a.f0 ≤ b.f0)
  | [], x, _ => by simp [ins]
  | a :: s, x, h => by
    unfold ins
    have h' := List.pairwise_cons.1 h
    split
    · refine List.pairwise_cons.2 ⟨fun b hb => ?_, ins_sorted s x h'.2⟩
      rcases (ins_mem b s x).1 hb with rfl | hb
      · assumption
      · exact h'.1 b hb
    · refine List.pairwise_cons.2 ⟨fun b hb => ?_, h⟩
      rcases List.mem_cons.1 hb with rfl | hb
      · omega
      · have := h'.1 b hb; omega
theorem drop_cons (l : List S29) (i : Nat) (h : i < l.length) : l.drop i = rd_T29 l (i : Int) :: l.drop (i + 1) := by
  rw [List.drop_eq_getElem_cons h]
  unfold rd_T29
  simp [List.getD_eq_getElem?_getD, List.getElem?_eq_getElem h]
theorem take_snoc (l : List S29) (i : Nat) (h : i < l.length) : l.take (i + 1) = l.take i ++ [rd_T29 l (i : Int)] := by
  rw [List.take_add_one, List.getElem?_eq_getElem h]
  unfold rd_T29
  simp [List.getD_eq_getElem?_getD, List.getElem?_eq_getElem h]
theorem may_ev (a b : Int) : span_may.f a b = some (decide (May ⟨a, b⟩)) := by
  unfold span_may.f
  by_cases h1 : a ≥ 0
  · rw [if_pos h1]
    by_cases h2 : a < b
    · rw [if_pos h2]; congr 1; apply decide_eq_decide.2; unfold May; dsimp only; omega
    · rw [if_neg h2, decide_eq_false (by unfold May; dsimp only; omega)]
  · rw [if_neg h1, decide_eq_false (by unfold May; dsimp only; omega)]
theorem rmay_ev (a b : Int) : remontoirref04_May.f a b = some (decide (May ⟨a, b⟩)) := by
  unfold remontoirref04_May.f
  by_cases h1 : a ≥ 0
  · rw [if_pos h1]
    by_cases h2 : b > a
    · rw [if_pos h2]; congr 1; apply decide_eq_decide.2; unfold May; dsimp only; omega
    · rw [if_neg h2, decide_eq_false (by unfold May; dsimp only; omega)]
  · rw [if_neg h1, decide_eq_false (by unfold May; dsimp only; omega)]
theorem insert_l (s : List S29) (hs : s.length < 1000000) (a b : Int) : ∀ (n i k : Nat), s.length - i = n → i ≤ s.length → n < k → span_insert.l0 k s (i : Int) a b = some (s.take i ++ ins (s.drop i) ⟨a, b⟩) := by
  intro n
  induction n with
  | zero =>
    intro i k h1 h2 h3
    obtain ⟨k, rfl⟩ : ∃ j, k = j + 1 := ⟨k - 1, by omega⟩
    obtain rfl : i = s.length := by omega
    rw [span_insert.l0, if_neg (by omega), Option.bind_some, if_pos (by omega), if_pos (by omega), Option.bind_some, if_pos (by simp; omega), Option.bind_some, if_pos (by simp; omega), Option.bind_some, Option.bind_some, if_pos (by simp; omega)]
    simp [ins]
  | succ n ih =>
    intro i k h1 h2 h3
    obtain ⟨k, rfl⟩ : ∃ j, k = j + 1 := ⟨k - 1, by omega⟩
    rw [span_insert.l0, if_pos (by omega), if_pos (by omega), drop_cons s i (by omega), ins]
    dsimp only
    by_cases h : (rd_T29 s (i : Int)).f0 ≤ a
    · rw [if_pos h, if_pos h, w64 (by omega) (by omega)]
      have := ih (i + 1) k (by omega) (by omega) (by omega)
      rw [take_snoc s i (by omega)] at this
      simpa using this
    · rw [if_neg h, if_neg h, Option.bind_some, if_pos (by omega), Option.bind_some, if_pos (by simp; omega), Option.bind_some, if_pos (by simp; omega), Option.bind_some, Option.bind_some, if_pos (by simp; omega)]
      simp [drop_cons s i (by omega)]
theorem insert_ev (s : List S29) (hs : s.length < 1000000) (x : S29) (k : Nat) (hk : s.length < k) : span_insert.f k s x.f0 x.f1 = some (ins s x) := by
  have := insert_l s hs x.f0 x.f1 s.length 0 k (by omega) (by omega) (by omega)
  simpa [span_insert.f] using this
def add (o : List S29) (x : S29) : List S29 := span_NormAdd.f o x.f0 x.f1
theorem add_nil (x : S29) : add [] x = [x] := by unfold add span_NormAdd.f; rw [if_neg (by simp)]; rfl
theorem add_snoc (o : List S29) (a x : S29) : add (o ++ [a]) x = if x.f0 ≤ a.f1 then o ++ [⟨a.f0, if a.f1 < x.f1 then x.f1 else a.f1⟩] else o ++ [a, x] := by
  have e : rd_T29 (o ++ [a]) (((o ++ [a]).length : Int) - 1) = a := by
    unfold rd_T29
    rw [show ((((o ++ [a]).length : Nat) : Int) - 1).toNat = o.length by simp]
    simp [List.getD_eq_getElem?_getD]
  unfold add span_NormAdd.f
  rw [e, show ((((o ++ [a]).length : Nat) : Int) - 1).toNat = o.length by simp]
  by_cases h : x.f0 ≤ a.f1
  · rw [if_pos ⟨by simp, h⟩, if_pos h]; simp
  · rw [if_neg (by intro hh; exact h hh.2), if_neg h]; simp
theorem add_len (o : List S29) (x : S29) : (add o x).length ≤ o.length + 1 := by
  unfold add span_NormAdd.f; split <;> simp
theorem add_right {o : List S29} {x : S29} (ho : Right o) (hx : May x) (hl : ∀ a ∈ o, a.f0 ≤ x.f0) :
    Right (add o x) ∧ (∀ t, In (add o x) t ↔ In o t ∨ (x.f0 ≤ t ∧ t < x.f1)) ∧ (∀ a ∈ add o x, a.f0 ≤ x.f0) := by
  rcases List.eq_nil_or_concat o with rfl | ⟨p, a, rfl⟩
  · rw [add_nil]
    refine ⟨⟨by simpa using hx, by simp⟩, fun t => ?_, by simp⟩
    rw [in_cons]
    constructor
    · rintro (h | h)
      · exact .inr h.2
      · exact .inl h
    · rintro (h | h)
      · exact .inr h
      · exact .inl ⟨hx, h⟩
  · rw [List.concat_eq_append] at ho hl ⊢
    have ha := ho.1 a (by simp)
    have hla := hl a (by simp)
    obtain ⟨hp1, hp2⟩ := ho
    rw [List.pairwise_append] at hp2
    obtain ⟨hp2, _, hp3⟩ := hp2
    have hp3 : ∀ z ∈ p, z.f1 < a.f0 := fun z hz => hp3 z hz a (by simp)
    rw [add_snoc]
    by_cases h : x.f0 ≤ a.f1
    · rw [if_pos h]
      obtain ⟨m, hm, hm1, hm2⟩ : ∃ m, (if a.f1 < x.f1 then x.f1 else a.f1) = m ∧ a.f1 ≤ m ∧ (m = a.f1 ∧ x.f1 ≤ m ∨ m = x.f1) := by
        refine ⟨_, rfl, ?_⟩
        split <;> constructor <;> omega
      rw [hm]
      have hma : May ⟨a.f0, m⟩ := by unfold May at ha hx ⊢; dsimp only; omega
      refine ⟨⟨?_, ?_⟩, fun t => ?_, ?_⟩
      · intro z hz
        rcases List.mem_append.1 hz with hz | hz
        · exact hp1 z (by simp [hz])
        · rw [List.mem_singleton.1 hz]; exact hma
      · rw [List.pairwise_append]
        refine ⟨hp2, by simp, fun z hz y hy => ?_⟩
        rw [List.mem_singleton.1 hy]; exact hp3 z hz
      · rw [in_append, in_append, in_cons, in_cons]
        dsimp only
        have hn := in_nil t
        constructor
        · rintro (h1 | h1 | h1)
          · exact .inl (.inl h1)
          · by_cases ht : t < a.f1
            · exact .inl (.inr (.inl ⟨ha, h1.2.1, ht⟩))
            · exact .inr (by omega)
          · exact absurd h1 hn
        · rintro ((h1 | h1 | h1) | h1)
          · exact .inl h1
          · exact .inr (.inl ⟨hma, by omega, by omega⟩)
          · exact absurd h1 hn
          · exact .inr (.inl ⟨hma, by omega, by omega⟩)
      · intro z hz
        rcases List.mem_append.1 hz with hz | hz
        · exact hl z (by simp [hz])
        · rw [List.mem_singleton.1 hz]; exact hla
    · rw [if_neg h]
      refine ⟨⟨?_, ?_⟩, fun t => ?_, ?_⟩
      · intro z hz
        rcases List.mem_append.1 hz with hz | hz
        · exact hp1 z (by simp [hz])
        · simp at hz; rcases hz with rfl | rfl
          · exact ha
          · exact hx
      · rw [List.pairwise_append]
        refine ⟨hp2, by simp; omega, fun z hz y hy => ?_⟩
        simp at hy; rcases hy with rfl | rfl
        · exact hp3 z hz
        · have := hp3 z hz; unfold May at ha; omega
      · rw [in_append, in_append, in_cons, in_cons, in_cons]
        have hn := in_nil t
        constructor
        · rintro (h1 | h1 | h1 | h1)
          · exact .inl (.inl h1)
          · exact .inl (.inr (.inl h1))
          · exact .inr h1.2
          · exact absurd h1 hn
        · rintro ((h1 | h1 | h1) | h1)
          · exact .inl h1
          · exact .inr (.inl h1)
          · exact absurd h1 hn
          · exact .inr (.inr (.inl ⟨hx, h1⟩))
      · intro z hz
        rcases List.mem_append.1 hz with hz | hz
        · exact hl z (by simp [hz])
        · simp at hz; rcases hz with rfl | rfl
          · exact hla
          · exact Int.le_refl _
theorem fold_right : ∀ (s : List S29) (o : List S29), Right o → (∀ x ∈ s, May x) → s.Pairwise (fun a b => a.f0 ≤ b.f0) → (∀ x ∈ s, ∀ a ∈ o, a.f0 ≤ x.f0) →
    Right (s.foldl add o) ∧ (∀ t, In (s.foldl add o) t ↔ In o t ∨ In s t) ∧ (s.foldl add o).length ≤ o.length + s.length
  | [], o, ho, _, _, _ => ⟨ho, fun t => ⟨.inl, fun h => h.elim id (fun h => absurd h (in_nil t))⟩, by simp⟩
  | x :: s, o, ho, hm, hs, hl => by
    have hs' := List.pairwise_cons.1 hs
    obtain ⟨h1, h2, h3⟩ := add_right ho (hm x (by simp)) (hl x (by simp))
    obtain ⟨h4, h5, h6⟩ := fold_right s (add o x) h1 (fun y hy => hm y (by simp [hy])) hs'.2 (fun y hy a ha => by have := h3 a ha; have := hs'.1 y hy; omega)
    refine ⟨h4, fun t => ?_, by have := add_len o x; simp only [List.foldl_cons, List.length_cons]; omega⟩
    rw [List.foldl_cons, h5 t, h2 t, in_cons]
    have := hm x (by simp)
    constructor
    · rintro ((h | h) | h)
      · exact .inl h
      · exact .inr (.inl ⟨this, h⟩)
      · exact .inr (.inr h)
    · rintro (h | h | h)
      · exact .inl (.inl h)
      · exact .inl (.inr h.2)
      · exact .inr h
def step (s : List S29) (x : S29) : List S29 := if May x then ins s x else s
theorem sort_fold : ∀ (l s : List S29), (∀ x ∈ s, May x) → s.Pairwise (fun a b => a.f0 ≤ b.f0) →
    (∀ x ∈ l.foldl step s, May x) ∧ (l.foldl step s).Pairwise (fun a b => a.f0 ≤ b.f0) ∧ (∀ x, x ∈ l.foldl step s ↔ x ∈ s ∨ x ∈ l ∧ May x) ∧ (l.foldl step s).length ≤ s.length + l.length
  | [], s, h1, h2 => ⟨h1, h2, fun x => by simp, by simp⟩
  | a :: l, s, h1, h2 => by
    rw [List.foldl_cons]
    by_cases hm : May a
    · have e : step s a = ins s a := by unfold step; rw [if_pos hm]
      rw [e]
      obtain ⟨h3, h4, h5, h6⟩ := sort_fold l (ins s a) (fun x hx => by rcases (ins_mem x s a).1 hx with rfl | hx; exact hm; exact h1 x hx) (ins_sorted s a h2)
      refine ⟨h3, h4, fun x => ?_, by have := ins_len s a; simp only [List.length_cons]; omega⟩
      rw [h5 x, ins_mem, List.mem_cons]
      constructor
      · rintro ((h | h) | h)
        · exact .inr ⟨.inl h, h ▸ hm⟩
        · exact .inl h
        · exact .inr ⟨.inr h.1, h.2⟩
      · rintro (h | ⟨h | h, h'⟩)
        · exact .inl (.inr h)
        · exact .inl (.inl h)
        · exact .inr ⟨h, h'⟩
    · have e : step s a = s := by unfold step; rw [if_neg hm]
      rw [e]
      obtain ⟨h3, h4, h5, h6⟩ := sort_fold l s h1 h2
      refine ⟨h3, h4, fun x => ?_, by simp only [List.length_cons]; omega⟩
      rw [h5 x, List.mem_cons]
      constructor
      · rintro (h | h)
        · exact .inl h
        · exact .inr ⟨.inr h.1, h.2⟩
      · rintro (h | ⟨h | h, h'⟩)
        · exact .inl h
        · exact absurd (h ▸ h') hm
        · exact .inr ⟨h, h'⟩
def norm (l : List S29) : List S29 := (l.foldl step []).foldl add []
theorem norm_spec (l : List S29) : Right (norm l) ∧ (∀ t, In (norm l) t ↔ In l t) ∧ (norm l).length ≤ l.length := by
  obtain ⟨h1, h2, h3, h4⟩ := sort_fold l [] (by simp) (by simp)
  obtain ⟨h5, h6, h7⟩ := fold_right (l.foldl step []) [] ⟨by simp, by simp⟩ h1 h2 (by simp)
  refine ⟨h5, fun t => ?_, by unfold norm; simp only [List.length_nil] at h4 h7; omega⟩
  unfold norm
  rw [h6 t]
  have hn := in_nil t
  have := in_mem (a := l.foldl step []) (b := l) (fun x hx => by rw [h3 x]; simp [hx]) t
  constructor
  · rintro (h | h)
    · exact absurd h hn
    · exact this.1 h
  · exact fun h => .inr (this.2 h)
theorem norm_l1 (s : List S29) (hs : s.length < 1000000) : ∀ (n i k : Nat) (o : List S29), s.length - i = n → i ≤ s.length → n < k → o.length + n < 1000000 → span_Norm.l1 k s (i : Int) o = some ((s.drop i).foldl add o) := by
  intro n
  induction n with
  | zero =>
    intro i k o h1 h2 h3 h4
    obtain ⟨k, rfl⟩ : ∃ j, k = j + 1 := ⟨k - 1, by omega⟩
    rw [span_Norm.l1, if_neg (by omega), List.drop_eq_nil_of_le (by omega)]
    rfl
  | succ n ih =>
    intro i k o h1 h2 h3 h4
    obtain ⟨k, rfl⟩ : ∃ j, k = j + 1 := ⟨k - 1, by omega⟩
    rw [span_Norm.l1, if_pos (by omega), if_pos (by omega), if_pos (by omega), w64 (by omega) (by omega), drop_cons s i (by omega), List.foldl_cons]
    have hl := add_len o (rd_T29 s (i : Int))
    exact ih (i + 1) k (add o (rd_T29 s (i : Int))) (by omega) (by omega) (by omega) (by omega)
theorem norm_l0 (x : List S29) (hx : x.length < 100000) : ∀ (n i k : Nat) (s : List S29), x.length - i = n → i ≤ x.length → s.length ≤ i → n + 1 + x.length < k → span_Norm.l0 k x (i : Int) s = some (((x.drop i).foldl step s).foldl add []) := by
  intro n
  induction n with
  | zero =>
    intro i k s h1 h2 h3 h4
    obtain ⟨k, rfl⟩ : ∃ j, k = j + 1 := ⟨k - 1, by omega⟩
    rw [span_Norm.l0, if_neg (by omega), List.drop_eq_nil_of_le (by omega)]
    have := norm_l1 s (by omega) s.length 0 k [] (by omega) (by omega) (by omega) (by simp; omega)
    simpa using this
  | succ n ih =>
    intro i k s h1 h2 h3 h4
    obtain ⟨k, rfl⟩ : ∃ j, k = j + 1 := ⟨k - 1, by omega⟩
    rw [span_Norm.l0, if_pos (by omega), if_pos (by omega), may_ev, Option.bind_some, drop_cons x i (by omega), List.foldl_cons]
    by_cases hm : May (rd_T29 x (i : Int))
    · rw [if_pos (decide_eq_true hm), insert_ev s (by omega) _ k (by omega), Option.bind_some, w64 (by omega) (by omega)]
      have e : step s (rd_T29 x (i : Int)) = ins s (rd_T29 x (i : Int)) := by unfold step; rw [if_pos hm]
      rw [e]
      have := ins_len s (rd_T29 x (i : Int))
      exact ih (i + 1) k _ (by omega) (by omega) (by omega) (by omega)
    · rw [if_neg (by simpa using hm), w64 (by omega) (by omega)]
      have e : step s (rd_T29 x (i : Int)) = s := by unfold step; rw [if_neg hm]
      rw [e]
      exact ih (i + 1) k _ (by omega) (by omega) (by omega) (by omega)
theorem norm_ev (l : List S29) (hl : l.length ≤ 1000) (k : Nat) (hk : 3000 ≤ k) : span_Norm.f k l = some (norm l) := by
  have := norm_l0 l (by omega) l.length 0 k [] (by omega) (by omega) (by simp) (by omega)
  simpa [span_Norm.f, norm] using this
/-! ### In, Same -/
theorem in_l (l : List S29) (hl : l.length < 1000000) (t : Int) : ∀ (n i k : Nat), l.length - i = n → i ≤ l.length → n < k → span_In.l0 k t l (l.length : Int) (i : Int) = some (decide (In (l.drop i) t)) := by
  intro n
  induction n with
  | zero =>
    intro i k h1 h2 h3
    obtain ⟨k, rfl⟩ : ∃ j, k = j + 1 := ⟨k - 1, by omega⟩
    rw [span_In.l0, if_neg (by omega), List.drop_eq_nil_of_le (by omega), decide_eq_false (in_nil t)]
  | succ n ih =>
    intro i k h1 h2 h3
    obtain ⟨k, rfl⟩ : ∃ j, k = j + 1 := ⟨k - 1, by omega⟩
    rw [span_In.l0, if_pos (by omega), if_pos (by omega), if_pos (by omega), may_ev, Option.bind_some, w64 (by omega) (by omega), drop_cons l i (by omega)]
    have hi := ih (i + 1) k (by omega) (by omega) (by omega)
    rw [Int.natCast_add, Int.natCast_one] at hi
    rw [hi]
    have hc := in_cons (rd_T29 l (i : Int)) (l.drop (i + 1)) t
    by_cases hm : May (rd_T29 l (i : Int))
    · rw [if_pos (decide_eq_true hm)]
      by_cases h4 : t ≥ (rd_T29 l (i : Int)).f0
      · rw [if_pos h4]
        by_cases h5 : t < (rd_T29 l (i : Int)).f1
        · rw [if_pos h5, decide_eq_true (hc.2 (.inl ⟨hm, h4, h5⟩))]
        · rw [if_neg h5]; congr 1; apply decide_eq_decide.2; rw [hc]; exact ⟨.inr, fun h => h.elim (fun h => absurd h.2.2 h5) id⟩
      · rw [if_neg h4]; congr 1; apply decide_eq_decide.2; rw [hc]; exact ⟨.inr, fun h => h.elim (fun h => absurd h.2.1 h4) id⟩
    · rw [if_neg (by simpa using hm)]; congr 1; apply decide_eq_decide.2; rw [hc]; exact ⟨.inr, fun h => h.elim (fun h => absurd h.1 hm) id⟩
theorem in_ev (l : List S29) (hl : l.length ≤ 1000) (t : Int) (k : Nat) (hk : 3000 ≤ k) : span_In.f k l t = some (decide (In l t)) := by
  have := in_l l (by omega) t l.length 0 k (by omega) (by omega) (by omega)
  simpa [span_In.f] using this
theorem rin_l (l : List S29) (hl : l.length < 1000000) (t : Int) : ∀ (n i k : Nat), l.length - i = n → i ≤ l.length → n < k → remontoirref04_In.l0 k l t (i : Int) = some (decide (In (l.drop i) t)) := by
  intro n
  induction n with
  | zero =>
    intro i k h1 h2 h3
    obtain ⟨k, rfl⟩ : ∃ j, k = j + 1 := ⟨k - 1, by omega⟩
    rw [remontoirref04_In.l0, if_neg (by omega), List.drop_eq_nil_of_le (by omega), decide_eq_false (in_nil t)]
  | succ n ih =>
    intro i k h1 h2 h3
    obtain ⟨k, rfl⟩ : ∃ j, k = j + 1 := ⟨k - 1, by omega⟩
    rw [remontoirref04_In.l0, if_pos (by omega), if_pos (by omega), rmay_ev, Option.bind_some, w64 (by omega) (by omega), drop_cons l i (by omega)]
    have hi := ih (i + 1) k (by omega) (by omega) (by omega)
    rw [Int.natCast_add, Int.natCast_one] at hi
    rw [hi]
    have hc := in_cons (rd_T29 l (i : Int)) (l.drop (i + 1)) t
    by_cases hm : May (rd_T29 l (i : Int))
    · rw [if_pos (decide_eq_true hm)]
      by_cases h4 : (rd_T29 l (i : Int)).f0 ≤ t
      · rw [if_pos h4]
        by_cases h5 : t < (rd_T29 l (i : Int)).f1
        · rw [if_pos h5, decide_eq_true (hc.2 (.inl ⟨hm, h4, h5⟩))]
        · rw [if_neg h5]; congr 1; apply decide_eq_decide.2; rw [hc]; exact ⟨.inr, fun h => h.elim (fun h => absurd h.2.2 h5) id⟩
      · rw [if_neg h4]; congr 1; apply decide_eq_decide.2; rw [hc]; exact ⟨.inr, fun h => h.elim (fun h => absurd h.2.1 h4) id⟩
    · rw [if_neg (by simpa using hm)]; congr 1; apply decide_eq_decide.2; rw [hc]; exact ⟨.inr, fun h => h.elim (fun h => absurd h.1 hm) id⟩
theorem rin_ev (l : List S29) (hl : l.length ≤ 1000) (t : Int) (k : Nat) (hk : 1001 ≤ k) : remontoirref04_In.f k l t = some (decide (In l t)) := by
  have := rin_l l (by omega) t l.length 0 k (by omega) (by omega) (by omega)
  simpa [remontoirref04_In.f] using this
theorem same_l (l : List S29) (hl : l.length < 1000000) : ∀ (n i k : Nat), l.length - i = n → i ≤ l.length → n < k → remontoirref04_Same.l0 k l l (i : Int) = some true := by
  intro n
  induction n with
  | zero =>
    intro i k h1 h2 h3
    obtain ⟨k, rfl⟩ : ∃ j, k = j + 1 := ⟨k - 1, by omega⟩
    rw [remontoirref04_Same.l0, if_neg (by omega)]
  | succ n ih =>
    intro i k h1 h2 h3
    obtain ⟨k, rfl⟩ : ∃ j, k = j + 1 := ⟨k - 1, by omega⟩
    rw [remontoirref04_Same.l0, if_pos (by omega), if_pos (by omega), if_pos (by omega), if_neg (by simp), w64 (by omega) (by omega)]
    exact ih (i + 1) k (by omega) (by omega) (by omega)
theorem same_ev (l : List S29) (hl : l.length ≤ 1000) (k : Nat) (hk : 3000 ≤ k) : remontoirref04_Same.f k l l = some true := by
  rw [remontoirref04_Same.f, if_pos rfl]
  exact same_l l (by omega) l.length 0 k (by omega) (by omega) (by omega)
theorem norm_norm {a b : List S29} (h : ∀ t, In a t ↔ In b t) : norm a = norm b :=
  right_unique (norm_spec a).1 (norm_spec b).1 (fun t => by rw [(norm_spec a).2.1 t, (norm_spec b).2.1 t, h t])
theorem norm_of_right {a : List S29} (h : Right a) : norm a = a := right_unique (norm_spec a).1 h (norm_spec a).2.1
/-! ### Cut, Without, the reference's Right -/
def within (x : S29) (a b : Int) : S29 := ⟨mx x.f0 a, mn x.f1 b⟩
def cutOf (n : List S29) (a b : Int) : List S29 := (n.map (fun x => within x a b)).filter (fun y => decide (May y))
theorem cut_l (n : List S29) (hn : n.length < 1000000) (a b : Int) : ∀ (m i k : Nat) (o : List S29), n.length - i = m → i ≤ n.length → m < k → o.length + m < 1000000 →
    span_Cut.l0 k a b o n (n.length : Int) (i : Int) = some (o ++ cutOf (n.drop i) a b) := by
  intro m
  induction m with
  | zero =>
    intro i k o h1 h2 h3 h4
    obtain ⟨k, rfl⟩ : ∃ j, k = j + 1 := ⟨k - 1, by omega⟩
    rw [span_Cut.l0, if_neg (by omega), List.drop_eq_nil_of_le (by omega)]
    simp [cutOf]
  | succ m ih =>
    intro i k o h1 h2 h3 h4
    obtain ⟨k, rfl⟩ : ∃ j, k = j + 1 := ⟨k - 1, by omega⟩
    rw [span_Cut.l0, if_pos (by omega), if_pos (by omega), if_pos (by omega), may_ev, Option.bind_some, w64 (by omega) (by omega), drop_cons n i (by omega)]
    unfold cutOf
    rw [List.map_cons, List.filter_cons]
    by_cases hm : May (within (rd_T29 n (i : Int)) a b)
    · have hm' : decide (May ⟨mx (rd_T29 n (i : Int)).f0 a, mn (rd_T29 n (i : Int)).f1 b⟩) = true := decide_eq_true hm
      rw [if_pos hm', if_pos (decide_eq_true hm), if_pos (by omega)]
      have := ih (i + 1) k (o ++ [within (rd_T29 n (i : Int)) a b]) (by omega) (by omega) (by omega) (by simp; omega)
      rw [Int.natCast_add, Int.natCast_one] at this
      unfold within at this ⊢
      rw [this]
      simp [cutOf, within]
    · have hm' : ¬ (decide (May ⟨mx (rd_T29 n (i : Int)).f0 a, mn (rd_T29 n (i : Int)).f1 b⟩) = true) := fun h => hm (of_decide_eq_true h)
      rw [if_neg hm', if_neg (by simpa using hm)]
      exact ih (i + 1) k o (by omega) (by omega) (by omega) (by omega)
theorem cut_ev (l : List S29) (hl : l.length ≤ 1000) (a b : Int) (k : Nat) (hk : 3000 ≤ k) : span_Cut.f k l a b = some (cutOf (norm l) a b) := by
  have h3 := (norm_spec l).2.2
  rw [span_Cut.f, norm_ev l hl k hk, Option.bind_some]
  have := cut_l (norm l) (by omega) a b (norm l).length 0 k [] (by omega) (by omega) (by omega) (by simp; omega)
  simpa using this
theorem cut_spec (n : List S29) (hn : Right n) (a b : Int) :
    Right (cutOf n a b) ∧ (∀ t, In (cutOf n a b) t ↔ In n t ∧ a ≤ t ∧ t < b) ∧ (cutOf n a b).length ≤ n.length ∧ (∀ x ∈ cutOf n a b, a ≤ x.f0 ∧ x.f1 ≤ b ∧ ∃ y ∈ n, x.f1 ≤ y.f1) := by
  have hmx : ∀ u v, u ≤ mx u v ∧ v ≤ mx u v ∧ (mx u v = u ∨ mx u v = v) := by intro u v; unfold mx; split <;> omega
  have hmn : ∀ u v, mn u v ≤ u ∧ mn u v ≤ v ∧ (mn u v = u ∨ mn u v = v) := by intro u v; unfold mn; split <;> omega
  have hmem : ∀ y, y ∈ cutOf n a b ↔ (∃ x ∈ n, within x a b = y) ∧ May y := by
    intro y; unfold cutOf; rw [List.mem_filter, List.mem_map]; simp
  refine ⟨⟨fun x hx => ((hmem x).1 hx).2, ?_⟩, fun t => ?_, by unfold cutOf; exact Nat.le_trans (List.length_filter_le _ _) (by simp), ?_⟩
  · unfold cutOf
    refine List.Pairwise.filter _ ?_
    rw [List.pairwise_map]
    refine hn.2.imp (fun {x y} h => ?_)
    have h1 := hmn x.f1 b
    have h2 := hmx y.f0 a
    unfold within; dsimp only; omega
  · unfold In
    constructor
    · rintro ⟨y, hy, hm, h1, h2⟩
      obtain ⟨⟨x, hx, rfl⟩, _⟩ := (hmem y).1 hy
      have h3 := hmn x.f1 b
      have h4 := hmx x.f0 a
      unfold within at h1 h2; dsimp only at h1 h2
      exact ⟨⟨x, hx, hn.1 x hx, by omega, by omega⟩, by omega, by omega⟩
    · rintro ⟨⟨x, hx, hm, h1, h2⟩, h5, h6⟩
      have h3 := hmn x.f1 b
      have h4 := hmx x.f0 a
      have : May (within x a b) := by unfold May at hm ⊢; unfold within; dsimp only; omega
      exact ⟨within x a b, (hmem _).2 ⟨⟨x, hx, rfl⟩, this⟩, this, by unfold within; dsimp only; omega, by unfold within; dsimp only; omega⟩
  · intro y hy
    obtain ⟨⟨x, hx, rfl⟩, _⟩ := (hmem y).1 hy
    have h3 := hmn x.f1 b
    have h4 := hmx x.f0 a
    unfold within; dsimp only
    exact ⟨by omega, by omega, x, hx, by omega⟩
def without (l : List S29) (x : S29) : List S29 := if May x then cutOf (norm l) 0 x.f0 ++ cutOf (norm l) x.f1 4611686018427387903 else norm l
theorem without_ev (l : List S29) (hl : l.length ≤ 1000) (x : S29) (k : Nat) (hk : 3000 ≤ k) : span_Without.f k l x.f0 x.f1 = some (without l x) := by
  have h3 := (norm_spec l).2.2
  have hr := (norm_spec l).1
  rw [span_Without.f, may_ev, Option.bind_some]
  unfold without
  by_cases hm : May x
  · have h1 := (cut_spec _ hr 0 x.f0).2.2.1
    have h2 := (cut_spec _ hr x.f1 4611686018427387903).2.2.1
    rw [if_pos (decide_eq_true hm), if_pos hm, cut_ev l hl _ _ k hk, Option.bind_some, cut_ev l hl _ _ k hk, Option.bind_some, if_pos (by omega)]
  · rw [if_neg (by simpa using hm), if_neg hm, norm_ev l hl k hk, Option.bind_some]
theorem without_spec (l : List S29) (x : S29) : Right (without l x) ∧ (∀ t, In (without l x) t ↔ In l t ∧ ¬ In [x] t) ∧ (without l x).length ≤ 2 * l.length := by
  obtain ⟨hr, hi, hl⟩ := norm_spec l
  have hx : ∀ t, In [x] t ↔ May x ∧ x.f0 ≤ t ∧ t < x.f1 := by
    intro t; rw [in_cons]; exact ⟨fun h => h.elim id (fun h => absurd h (in_nil t)), .inl⟩
  unfold without
  by_cases hm : May x
  · rw [if_pos hm]
    obtain ⟨a1, a2, a3, a4⟩ := cut_spec _ hr 0 x.f0
    obtain ⟨b1, b2, b3, b4⟩ := cut_spec _ hr x.f1 4611686018427387903
    refine ⟨⟨?_, ?_⟩, fun t => ?_, by simp; omega⟩
    · intro y hy
      rcases List.mem_append.1 hy with hy | hy
      · exact a1.1 y hy
      · exact b1.1 y hy
    · rw [List.pairwise_append]
      refine ⟨a1.2, b1.2, fun y hy z hz => ?_⟩
      have h1 := a4 y hy
      have h2 := b4 z hz
      unfold May at hm; omega
    · rw [in_append, a2 t, b2 t, hi t, hx t]
      constructor
      · rintro (h | h)
        · exact ⟨h.1, fun h' => by omega⟩
        · exact ⟨h.1, fun h' => by omega⟩
      · rintro ⟨h1, h2⟩
        have h3 : 0 ≤ t ∧ t < 4611686018427387903 := by
          obtain ⟨z, _, hz, h4, h5⟩ := h1
          unfold May at hz; omega
        by_cases h4 : t < x.f0
        · exact .inl ⟨h1, h3.1, h4⟩
        · exact .inr ⟨h1, Int.not_lt.1 (fun h5 => h2 ⟨hm, by omega, h5⟩), h3.2⟩
  · rw [if_neg hm]
    exact ⟨hr, fun t => by rw [hi t, hx t]; exact ⟨fun h => ⟨h, fun h' => hm h'.1⟩, fun h => h.1⟩, by omega⟩
theorem right_get (l : List S29) (h : Right l) (i : Nat) (hi : i < l.length) : May (rd_T29 l (i : Int)) := by
  refine h.1 _ ?_
  unfold rd_T29
  rw [Int.toNat_natCast, List.getD_eq_getElem?_getD, List.getElem?_eq_getElem hi]
  exact List.getElem_mem hi
theorem right_step (l : List S29) (h : Right l) (i : Nat) (hi : i + 1 < l.length) : (rd_T29 l (i : Int)).f1 < (rd_T29 l ((i + 1 : Nat) : Int)).f0 := by
  unfold rd_T29
  rw [Int.toNat_natCast, Int.toNat_natCast, List.getD_eq_getElem?_getD, List.getD_eq_getElem?_getD, List.getElem?_eq_getElem hi, List.getElem?_eq_getElem (by omega : i < l.length)]
  exact List.pairwise_iff_getElem.1 h.2 i (i + 1) (by omega) hi (by omega)
theorem rright_l (l : List S29) (hl : l.length < 1000000) (h : Right l) : ∀ (n i k : Nat), l.length - i = n → i ≤ l.length → n < k → remontoirref04_Right.l0 k l (i : Int) = some true := by
  intro n
  induction n with
  | zero =>
    intro i k h1 h2 h3
    obtain ⟨k, rfl⟩ : ∃ j, k = j + 1 := ⟨k - 1, by omega⟩
    rw [remontoirref04_Right.l0, if_neg (by omega)]
  | succ n ih =>
    intro i k h1 h2 h3
    obtain ⟨k, rfl⟩ : ∃ j, k = j + 1 := ⟨k - 1, by omega⟩
    have hi := ih (i + 1) k (by omega) (by omega) (by omega)
    rw [Int.natCast_add, Int.natCast_one] at hi
    rw [remontoirref04_Right.l0, if_pos (by omega), if_pos (by omega), rmay_ev, Option.bind_some, if_pos (decide_eq_true (right_get l h i (by omega))), w64 (n := (i : Int) + 1) (by omega) (by omega), hi]
    by_cases h0 : (i : Int) > 0
    · rw [if_pos h0, w64 (by omega) (by omega), if_pos (by omega), if_pos (by omega)]
      have := right_step l h (i - 1) (by omega)
      rw [show ((i - 1 + 1 : Nat) : Int) = (i : Int) by omega, show ((i - 1 : Nat) : Int) = (i : Int) - 1 by omega] at this
      rw [if_neg (by omega)]
    · rw [if_neg h0]
theorem rright_ev (l : List S29) (hl : l.length ≤ 1000) (h : Right l) (k : Nat) (hk : 3000 ≤ k) : remontoirref04_Right.f k l = some true :=
  rright_l l (by omega) h l.length 0 k (by omega) (by omega) (by omega)
end Go.Proofs.Ytdfokaldjfpkhaa.SpanLem
