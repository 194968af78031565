/- The statement SpanNorms: which spans are in a row, and the row of any, is what the document says. No condition. -/
import Derived.Test.YtdfokaldjfpkhaaFSpanLem
import Derived.Test.YtdfokaldjfpkhaaFSpanx8
namespace Go.Proofs.Ytdfokaldjfpkhaa.Pure
open Go.RowKit Go.Proofs.Ytdfokaldjfpkhaa.FSpan Go.Proofs.YtdfokaldjfpkhaaW.PrintWords Go.Proofs.YtdfokaldjfpkhaaW.PrintLast Go.Proofs.Ytdfokaldjfpkhaa.SpanLem
set_option linter.unusedSimpArgs false
set_option linter.unusedVariables false

theorem rights_l (l : List S29) (hl : l.length < 1000000) : ∀ (n i k : Nat), l.length - i = n → i ≤ l.length → n < k → ∃ b, span_Right.l0 k l l (l.length : Int) (i : Int) = some b ∧ remontoirref04_Right.l0 k l (i : Int) = some b := by
  intro n
  induction n with
  | zero =>
    intro i k h1 h2 h3
    obtain ⟨k, rfl⟩ : ∃ j, k = j + 1 := ⟨k - 1, by omega⟩
    exact ⟨true, by rw [span_Right.l0, if_neg (by omega)], by rw [remontoirref04_Right.l0, if_neg (by omega)]⟩
  | succ n ih =>
    intro i k h1 h2 h3
    obtain ⟨k, rfl⟩ : ∃ j, k = j + 1 := ⟨k - 1, by omega⟩
    obtain ⟨b, hb1, hb2⟩ := ih (i + 1) k (by omega) (by omega) (by omega)
    rw [Int.natCast_add, Int.natCast_one] at hb1 hb2
    have c1 : (i : Int) < (l.length : Int) := by omega
    have c2 : 0 ≤ (i : Int) := by omega
    rw [span_Right.l0, remontoirref04_Right.l0]
    simp only [if_pos c1, if_pos c2]
    rw [may_ev, rmay_ev, Option.bind_some, Option.bind_some, w64 (n := (i : Int) + 1) (by omega) (by omega), hb1, hb2]
    by_cases hm : decide (May ⟨(rd_T29 l (i : Int)).f0, (rd_T29 l (i : Int)).f1⟩) = true
    · rw [if_pos hm]
      by_cases h0 : (i : Int) > 0
      · have c3 : (i : Int) - 1 < (l.length : Int) := by omega
        have c4 : 0 ≤ (i : Int) - 1 := by omega
        rw [w64 (n := (i : Int) - 1) (by omega) (by omega)]
        simp only [if_pos h0, if_pos c3, if_pos c4]
        by_cases hc : (rd_T29 l (i : Int)).f0 ≤ (rd_T29 l ((i : Int) - 1)).f1
        · exact ⟨false, by rw [if_pos hc], by rw [if_pos hc]⟩
        · exact ⟨b, by rw [if_neg hc], by rw [if_neg hc]⟩
      · exact ⟨b, by rw [if_neg h0], by rw [if_neg h0]⟩
    · rw [if_neg hm]
      exact ⟨false, rfl, rfl⟩
def edgeB (l : List S29) (t : Int) : Bool := decide (In l t) != decide (In l (t - 1))
theorem edge_ev (l : List S29) (hl : l.length ≤ 1000) (t : Int) (ht : 0 ≤ t ∧ t ≤ 4611686018427387903) (k : Nat) (hk : 1001 ≤ k) : remontoirref04_edge.f k l t = some (edgeB l t) := by
  rw [remontoirref04_edge.f, w64 (by omega) (by omega), rin_ev l hl t k hk, Option.bind_some, rin_ev l hl _ k hk, Option.bind_some]
  rfl
theorem edge_iff {l : List S29} {t : Int} : edgeB l t = true ↔ ¬ (In l t ↔ In l (t - 1)) := by
  unfold edgeB
  rw [bne_iff_ne, Ne, decide_eq_decide]
theorem right_pair : ∀ {n : List S29}, n.Pairwise (fun a b => a.f1 < b.f0) → ∀ y ∈ n, ∀ z ∈ n, y = z ∨ y.f1 < z.f0 ∨ z.f1 < y.f0
  | [], _, y, hy, _, _ => absurd hy (by simp)
  | x :: n, h, y, hy, z, hz => by
    have h' := List.pairwise_cons.1 h
    rcases List.mem_cons.1 hy with e1 | hy'
    · rcases List.mem_cons.1 hz with e2 | hz'
      · exact .inl (e1.trans e2.symm)
      · exact .inr (.inl (e1 ▸ h'.1 z hz'))
    · rcases List.mem_cons.1 hz with e2 | hz'
      · exact .inr (.inr (e2 ▸ h'.1 y hy'))
      · exact right_pair h'.2 y hy' z hz'
theorem edge_ends {l n : List S29} (hn : Right n) (hi : ∀ t, In n t ↔ In l t) (t : Int) : edgeB l t = true ↔ ∃ y ∈ n, t = y.f0 ∨ t = y.f1 := by
  rw [edge_iff, ← hi t, ← hi (t - 1)]
  constructor
  · intro h
    by_cases h1 : In n t
    · have h2 : ¬ In n (t - 1) := fun h2 => h ⟨fun _ => h2, fun _ => h1⟩
      obtain ⟨y, hy, hm, h3, h4⟩ := h1
      refine ⟨y, hy, .inl (Classical.byContradiction fun hc => h2 ⟨y, hy, hm, by omega, by omega⟩)⟩
    · have h2 : In n (t - 1) := Classical.byContradiction fun h2 => h ⟨fun h => absurd h h1, fun h => absurd h h2⟩
      obtain ⟨y, hy, hm, h3, h4⟩ := h2
      refine ⟨y, hy, .inr (Classical.byContradiction fun hc => h1 ⟨y, hy, hm, by omega, by omega⟩)⟩
  · rintro ⟨y, hy, rfl | rfl⟩ h
    · have hm := hn.1 y hy
      obtain ⟨z, hz, hzm, h3, h4⟩ := h.1 ⟨y, hy, hm, Int.le_refl _, hm.2.1⟩
      have := right_pair hn.2 y hy z hz
      unfold May at hm hzm
      rcases this with rfl | h5 | h5 <;> omega
    · have hm := hn.1 y hy
      obtain ⟨z, hz, hzm, h3, h4⟩ := h.2 ⟨y, hy, hm, by unfold May at hm; omega, by omega⟩
      have := right_pair hn.2 y hy z hz
      unfold May at hm hzm
      rcases this with rfl | h5 | h5 <;> omega
def marks : List S29 → List Int
  | [] => []
  | x :: l => (if May x then [x.f0, x.f1] else []) ++ marks l
theorem marks_mem (t : Int) : ∀ l : List S29, t ∈ marks l ↔ ∃ x ∈ l, May x ∧ (t = x.f0 ∨ t = x.f1)
  | [] => by simp [marks]
  | x :: l => by
    rw [marks, List.mem_append, marks_mem t l]
    by_cases h : May x
    · rw [if_pos h]; simp [h]
    · rw [if_neg h]; simp [h]
theorem marks_len : ∀ l : List S29, (marks l).length ≤ 2 * l.length
  | [] => by simp [marks]
  | x :: l => by
    have := marks_len l
    rw [marks, List.length_append, List.length_cons]
    split <;> simp <;> omega
theorem edge_mark {l : List S29} {t : Int} (h : edgeB l t = true) : t ∈ marks l := by
  rw [marks_mem]
  rw [edge_iff] at h
  by_cases h1 : In l t
  · have h2 : ¬ In l (t - 1) := fun h2 => h ⟨fun _ => h2, fun _ => h1⟩
    obtain ⟨y, hy, hm, h3, h4⟩ := h1
    refine ⟨y, hy, hm, .inl (Classical.byContradiction fun hc => h2 ⟨y, hy, hm, by omega, by omega⟩)⟩
  · have h2 : In l (t - 1) := Classical.byContradiction fun h2 => h ⟨fun h => absurd h h1, fun h => absurd h h2⟩
    obtain ⟨y, hy, hm, h3, h4⟩ := h2
    refine ⟨y, hy, hm, .inr (Classical.byContradiction fun hc => h1 ⟨y, hy, hm, by omega, by omega⟩)⟩
/-- The least mark behind a place that is an edge; nx, if there is none. -/
def pick (l : List S29) (a : Int) : List Int → Int → Int
  | [], nx => nx
  | t :: m, nx => pick l a m (if a < t ∧ (nx < 0 ∨ t < nx) ∧ edgeB l t = true then t else nx)
theorem pick_spec (l : List S29) (a : Int) (ha : -1 ≤ a) : ∀ (m : List Int) (nx : Int),
    (pick l a m nx = nx ∨ (pick l a m nx ∈ m ∧ a < pick l a m nx ∧ edgeB l (pick l a m nx) = true)) ∧ (∀ t ∈ m, a < t → edgeB l t = true → 0 ≤ pick l a m nx ∧ pick l a m nx ≤ t) ∧ (0 ≤ nx → 0 ≤ pick l a m nx ∧ pick l a m nx ≤ nx)
  | [], nx => ⟨.inl rfl, by simp, fun h => ⟨h, Int.le_refl _⟩⟩
  | t :: m, nx => by
    rw [pick]
    by_cases h : a < t ∧ (nx < 0 ∨ t < nx) ∧ edgeB l t = true
    · rw [if_pos h]
      obtain ⟨h1, h2, h3⟩ := pick_spec l a ha m t
      have h4 := h3 (by omega)
      refine ⟨.inr ?_, fun u hu hau he => ?_, fun hn => by omega⟩
      · rcases h1 with h1 | h1
        · rw [h1]; exact ⟨by simp, h.1, h.2.2⟩
        · exact ⟨List.mem_cons_of_mem _ h1.1, h1.2⟩
      · rcases List.mem_cons.1 hu with rfl | hu
        · exact h4
        · exact h2 u hu hau he
    · rw [if_neg h]
      obtain ⟨h1, h2, h3⟩ := pick_spec l a ha m nx
      refine ⟨h1.imp id (fun h1 => ⟨List.mem_cons_of_mem _ h1.1, h1.2⟩), fun u hu hau he => ?_, h3⟩
      rcases List.mem_cons.1 hu with rfl | hu
      · have h5 : ¬ (nx < 0 ∨ u < nx) := fun h5 => h ⟨hau, h5, he⟩
        have := h3 (by omega)
        omega
      · exact h2 u hu hau he
theorem pick_none (l : List S29) (a : Int) (ha : -1 ≤ a) (m : List Int) (h : ∀ t ∈ m, a < t → ¬ edgeB l t = true) : pick l a m (-1) = -1 := by
  rcases (pick_spec l a ha m (-1)).1 with h1 | h1
  · exact h1
  · exact absurd h1.2.2 (h _ h1.1 h1.2.1)
theorem pick_least (l : List S29) (a : Int) (ha : -1 ≤ a) (m : List Int) (v : Int) (hv : v ∈ m) (hav : a < v) (he : edgeB l v = true) (h : ∀ t ∈ m, a < t → edgeB l t = true → v ≤ t) : pick l a m (-1) = v := by
  obtain ⟨h1, h2, h3⟩ := pick_spec l a ha m (-1)
  have h4 := h2 v hv hav he
  rcases h1 with h1 | h1
  · omega
  · have := h _ h1.1 h1.2.1 h1.2.2
    omega
theorem rd_drop (m : List Int) (i : Nat) (h : i < m.length) : m.drop i = rd m (i : Int) :: m.drop (i + 1) := by
  rw [List.drop_eq_getElem_cons h]
  unfold rd
  simp [List.getD_eq_getElem?_getD, List.getElem?_eq_getElem h]
theorem l2_ev (l : List S29) (hl : l.length ≤ 1000) (m : List Int) (hm : ∀ t ∈ m, 0 ≤ t ∧ t ≤ 4611686018427387903) (hml : m.length < 1000000) (o : List S29) (a : Int) (N : Nat) (hN : 1001 ≤ N) (R : Option (List S29))
    (H : ∀ k, N ≤ k → remontoirref04_Norm.l2 (k + 1) l m o a (pick l a m (-1)) (m.length : Int) = R) :
    ∀ (n i k : Nat) (nx : Int), m.length - i = n → i ≤ m.length → N + n < k → pick l a (m.drop i) nx = pick l a m (-1) → remontoirref04_Norm.l2 k l m o a nx (i : Int) = R := by
  intro n
  induction n with
  | zero =>
    intro i k nx h1 h2 h3 h4
    obtain ⟨k, rfl⟩ : ∃ j, k = j + 1 := ⟨k - 1, by omega⟩
    obtain rfl : i = m.length := by omega
    rw [List.drop_length, pick] at h4
    rw [h4]
    exact H k (by omega)
  | succ n ih =>
    intro i k nx h1 h2 h3 h4
    obtain ⟨k, rfl⟩ : ∃ j, k = j + 1 := ⟨k - 1, by omega⟩
    rw [rd_drop m i (by omega), pick] at h4
    have hr : rd m (i : Int) ∈ m := by
      unfold rd
      rw [Int.toNat_natCast, List.getD_eq_getElem?_getD, List.getElem?_eq_getElem (by omega)]
      exact List.getElem_mem _
    have hi := fun nx => ih (i + 1) k nx (by omega) (by omega) (by omega)
    rw [Int.natCast_add, Int.natCast_one] at hi
    rw [remontoirref04_Norm.l2, if_pos (by omega), if_pos (by omega), w64 (n := (i : Int) + 1) (by omega) (by omega), edge_ev l hl _ (hm _ hr) k (by omega), Option.bind_some]
    by_cases c1 : rd m (i : Int) > a
    · rw [if_pos c1]
      by_cases c2 : nx < 0
      · rw [if_pos c2]
        by_cases c3 : edgeB l (rd m (i : Int)) = true
        · rw [if_pos ⟨c1, .inl c2, c3⟩] at h4
          rw [if_pos c3]; exact hi _ h4
        · rw [if_neg (fun h => c3 h.2.2)] at h4
          rw [if_neg c3]; exact hi _ h4
      · rw [if_neg c2]
        by_cases c4 : rd m (i : Int) < nx
        · rw [if_pos c4]
          by_cases c3 : edgeB l (rd m (i : Int)) = true
          · rw [if_pos ⟨c1, .inr c4, c3⟩] at h4
            rw [if_pos c3]; exact hi _ h4
          · rw [if_neg (fun h => c3 h.2.2)] at h4
            rw [if_neg c3]; exact hi _ h4
        · rw [if_neg (fun h => h.2.1.elim c2 c4)] at h4
          rw [if_neg c4]; exact hi _ h4
    · rw [if_neg (fun h => c1 h.1)] at h4
      rw [if_neg c1]; exact hi _ h4
theorem l1_ev (l : List S29) (hl : l.length ≤ 1000) (n : List S29) (hn : Right n) (hi : ∀ t, In n t ↔ In l t) (hnl : n.length ≤ 1000) (m : List Int) (hm : m = marks l) :
    ∀ (q p : List S29) (a : Int) (k : Nat), n = p ++ q → (∀ y ∈ p, y.f1 ≤ a) → (∀ y ∈ q, a < y.f0) → -1 ≤ a → 2000 + (2 * q.length + 1) * (m.length + 3) < k → remontoirref04_Norm.l1 k l m p a = some n := by
  have hml : m.length < 1000000 := by have := marks_len l; subst hm; omega
  have hmm : ∀ t ∈ m, 0 ≤ t ∧ t ≤ 4611686018427387903 := by
    intro t ht
    rw [hm, marks_mem] at ht
    obtain ⟨x, _, hx, h⟩ := ht
    unfold May at hx; omega
  intro q
  induction q with
  | nil =>
    intro p a k h1 h2 h3 h4 h5
    obtain ⟨k, rfl⟩ : ∃ j, k = j + 1 := ⟨k - 1, by omega⟩
    rw [List.append_nil] at h1
    subst h1
    have hp : pick l a m (-1) = -1 := pick_none l a h4 m (fun t ht hat he => by
      obtain ⟨y, hy, h⟩ := (edge_ends hn hi t).1 he
      have := h2 y hy
      have := (hn.1 y hy).2.1
      omega)
    rw [remontoirref04_Norm.l1]
    refine l2_ev l hl m hmm hml n a 1001 (by omega) (some n) (fun k _ => ?_) m.length 0 k (-1) (by omega) (by omega) (by simp at h5; omega) (by rw [List.drop_zero])
    rw [remontoirref04_Norm.l2, if_neg (by omega), hp, if_pos (by omega)]
  | cons x q ih =>
    intro p a k h1 h2 h3 h4 h5
    obtain ⟨k, rfl⟩ : ∃ j, k = j + 1 := ⟨k - 1, by omega⟩
    have hxn : x ∈ n := by rw [h1]; simp
    have hx := hn.1 x hxn
    have hax := h3 x (by simp)
    obtain ⟨hpp, hqq, hpq⟩ := List.pairwise_append.1 (h1 ▸ hn.2)
    have hq2 := (List.pairwise_cons.1 hqq).1
    have hlen : n.length = p.length + (q.length + 1) := by rw [h1]; simp
    have hedge : ∀ t, edgeB l t = true → (t ≤ a ∨ t = x.f0 ∨ t = x.f1 ∨ x.f1 < t) := by
      intro t he
      obtain ⟨y, hy, h⟩ := (edge_ends hn hi t).1 he
      have hy1 := hn.1 y hy
      rw [h1] at hy
      rcases List.mem_append.1 hy with hy | hy
      · have := h2 y hy; unfold May at hy1; omega
      · rcases List.mem_cons.1 hy with rfl | hy
        · omega
        · have := hq2 y hy; unfold May at hy1; omega
    have he0 : edgeB l x.f0 = true := (edge_ends hn hi _).2 ⟨x, hxn, .inl rfl⟩
    have he1 : edgeB l x.f1 = true := (edge_ends hn hi _).2 ⟨x, hxn, .inr rfl⟩
    have hp0 : pick l a m (-1) = x.f0 := pick_least l a h4 m _ (hm ▸ edge_mark he0) hax he0 (fun t _ hat he => by
      have := hedge t he; unfold May at hx; omega)
    have hp1 : pick l x.f0 m (-1) = x.f1 := pick_least l x.f0 (by unfold May at hx; omega) m _ (hm ▸ edge_mark he1) hx.2.1 he1 (fun t _ hat he => by
      have := hedge t he; omega)
    have hin0 : In l x.f0 := (hi _).1 ⟨x, hxn, hx, Int.le_refl _, hx.2.1⟩
    have hin1 : ¬ In l x.f1 := by
      rw [← hi]
      rintro ⟨z, hz, hzm, h6, h7⟩
      rcases right_pair hn.2 x hxn z hz with rfl | h8 | h8
      · omega
      · omega
      · unfold May at hx; omega
    have hfuel : 2000 + (2 * q.length + 1) * (m.length + 3) + (m.length + 3) + (m.length + 3) < k + 1 := by
      rw [List.length_cons] at h5
      have : (2 * (q.length + 1) + 1) * (m.length + 3) = (2 * q.length + 1) * (m.length + 3) + (m.length + 3) + (m.length + 3) := by grind
      omega
    rw [remontoirref04_Norm.l1]
    refine l2_ev l hl m hmm hml p a (2000 + (2 * q.length + 1) * (m.length + 3) + (m.length + 3)) (by omega) (some n) (fun k hk => ?_) m.length 0 k (-1) (by omega) (by omega) (by omega) (by rw [List.drop_zero])
    unfold May at hx
    rw [remontoirref04_Norm.l2, if_neg (by omega), hp0, if_neg (by omega), rin_ev l hl _ k (by omega), Option.bind_some, if_pos (decide_eq_true hin0), if_pos (by omega)]
    obtain ⟨k, rfl⟩ : ∃ j, k = j + 1 := ⟨k - 1, by omega⟩
    rw [remontoirref04_Norm.l1]
    refine l2_ev l hl m hmm hml (p ++ [⟨x.f0, 0⟩]) x.f0 (2000 + (2 * q.length + 1) * (m.length + 3) + 1) (by omega) (some n) (fun k hk => ?_) m.length 0 k (-1) (by omega) (by omega) (by omega) (by rw [List.drop_zero])
    have hL : ((p ++ [(⟨x.f0, 0⟩ : S29)]).length : Int) - 1 = (p.length : Int) := by simp
    have hR : rd_T29 (p ++ [(⟨x.f0, 0⟩ : S29)]) (p.length : Int) = ⟨x.f0, 0⟩ := by
      unfold rd_T29
      simp [List.getD_eq_getElem?_getD]
    rw [remontoirref04_Norm.l2, if_neg (by omega), hp1, if_neg (by omega), rin_ev l hl _ k (by omega), Option.bind_some, if_neg (by simpa using hin1), hL, w64 (by omega) (by omega), if_pos (by omega), if_pos (by simp; omega), hR]
    have hS : (p ++ [(⟨x.f0, 0⟩ : S29)]).set ((p.length : Int)).toNat ⟨x.f0, x.f1⟩ = p ++ [x] := by simp
    dsimp only
    rw [hS]
    refine ih (p ++ [x]) x.f1 k (by rw [h1]; simp) (fun y hy => ?_) (fun y hy => hq2 y hy) (by omega) (by omega)
    rcases List.mem_append.1 hy with hy | hy
    · have := hpq y hy x (by simp); omega
    · rw [List.mem_singleton.1 hy]; exact Int.le_refl _
theorem l0_ev (l : List S29) (hl : l.length ≤ 1000) (N : Nat) (R : Option (List S29)) (H : ∀ k, N ≤ k → remontoirref04_Norm.l1 k l (marks l) [] (-1) = R) :
    ∀ (n i k : Nat) (m : List Int), l.length - i = n → i ≤ l.length → N + n < k → m.length ≤ 2 * i → m ++ marks (l.drop i) = marks l → remontoirref04_Norm.l0 k l m (i : Int) = R := by
  intro n
  induction n with
  | zero =>
    intro i k m h1 h2 h3 h4 h5
    obtain ⟨k, rfl⟩ : ∃ j, k = j + 1 := ⟨k - 1, by omega⟩
    rw [List.drop_eq_nil_of_le (by omega), marks, List.append_nil] at h5
    rw [remontoirref04_Norm.l0, if_neg (by omega), h5]
    exact H k (by omega)
  | succ n ih =>
    intro i k m h1 h2 h3 h4 h5
    obtain ⟨k, rfl⟩ : ∃ j, k = j + 1 := ⟨k - 1, by omega⟩
    rw [drop_cons l i (by omega), marks] at h5
    rw [remontoirref04_Norm.l0, if_pos (by omega), if_pos (by omega), rmay_ev, Option.bind_some, w64 (n := (i : Int) + 1) (by omega) (by omega)]
    have hi := fun m => ih (i + 1) k m (by omega) (by omega) (by omega)
    rw [Int.natCast_add, Int.natCast_one] at hi
    by_cases hm : May (rd_T29 l (i : Int))
    · rw [if_pos hm] at h5
      rw [if_pos (decide_eq_true hm), Option.bind_some, if_pos (by simp; omega)]
      exact hi _ (by simp; omega) (by rw [List.append_assoc]; exact h5)
    · rw [if_neg hm] at h5
      rw [if_neg (fun h => hm (of_decide_eq_true h))]
      exact hi _ (by omega) h5
theorem rnorm_ev (l : List S29) (hl : l.length ≤ 40) (k : Nat) (hk : 20000 ≤ k) : remontoirref04_Norm.f k l = some (norm l) := by
  obtain ⟨h1, h2, h3⟩ := norm_spec l
  have hm := marks_len l
  rw [remontoirref04_Norm.f]
  have hmul : (2 * (norm l).length + 1) * ((marks l).length + 3) ≤ 81 * 83 := Nat.mul_le_mul (by omega) (by omega)
  refine l0_ev l (by omega) 10000 (some (norm l)) (fun k hk => ?_) l.length 0 k [] (by omega) (by omega) (by omega) (by simp) (by simp)
  exact l1_ev l (by omega) (norm l) h1 h2 (by omega) (marks l) rfl (norm l) [] (-1) k rfl (by simp) (fun y hy => by have := (h1.1 y hy).1; omega) (by omega) (by omega)
theorem SpanNorms : remontoirlaw04_SpanNorms.Pure := by
  intro l hl
  obtain ⟨K, hK⟩ := knows_ev
  refine ⟨K + 20000, ?_⟩
  have hk : ∀ j, K ≤ j → (remontoirlaw04_knows.f j).bind (fun t => some t) = some true := fun j hj => by rw [hK j hj]; rfl
  unfold remontoirlaw04_SpanNorms.f remontoirlaw04_great.f
  rw [Option.bind_some]
  by_cases hg : (l.length : Int) > 40
  · rw [if_pos (decide_eq_true hg), hk _ (by omega)]
  · obtain ⟨h1, h2, h3⟩ := norm_spec l
    obtain ⟨b, hb1, hb2⟩ := rights_l l (by omega) l.length 0 (K + 20000) (by omega) (by omega) (by omega)
    rw [Int.natCast_zero] at hb1 hb2
    rw [if_neg (by simpa using hg), span_Right.f, hb1, Option.bind_some, remontoirref04_Right.f, hb2, Option.bind_some, if_pos (by simp), norm_ev l (by omega) _ (by omega), Option.bind_some, rnorm_ev l (by omega) _ (by omega), Option.bind_some,
      same_ev _ (by omega) _ (by omega), Option.bind_some, if_pos rfl, hk _ (by omega)]
end Go.Proofs.Ytdfokaldjfpkhaa.Pure
