/- The statement SpanTotals: the ticks of spans are those of their row, one by one; those that are cut at a place, and those behind, are all. No condition. -/
import Derived.Test.YtdfokaldjfpkhaaFSpanLem
import Derived.Test.YtdfokaldjfpkhaaFSpanx9
namespace Go.Proofs.Ytdfokaldjfpkhaa.Pure
open Go.RowKit Go.Proofs.Ytdfokaldjfpkhaa.FSpan Go.Proofs.YtdfokaldjfpkhaaW.PrintWords Go.Proofs.YtdfokaldjfpkhaaW.PrintLast Go.Proofs.Ytdfokaldjfpkhaa.SpanLem
set_option linter.unusedSimpArgs false
set_option linter.unusedVariables false

def cnt (p : Int → Bool) : Nat → Int
  | 0 => 0
  | n + 1 => cnt p n + (if p (n : Int) = true then 1 else 0)
theorem cnt_bound (p : Int → Bool) : ∀ n, 0 ≤ cnt p n ∧ cnt p n ≤ n
  | 0 => by simp [cnt]
  | n + 1 => by
    have := cnt_bound p n
    unfold cnt; split <;> omega
theorem cnt_or {p q r : Int → Bool} (h1 : ∀ t, p t = true ↔ q t = true ∨ r t = true) (h2 : ∀ t, ¬ (q t = true ∧ r t = true)) : ∀ n, cnt p n = cnt q n + cnt r n
  | 0 => by simp [cnt]
  | n + 1 => by
    have ih := cnt_or h1 h2 n
    have a := h1 (n : Int)
    have b := h2 (n : Int)
    unfold cnt
    by_cases hq : q (n : Int) = true
    · rw [if_pos hq, if_pos (a.2 (.inl hq)), if_neg (fun h => b ⟨hq, h⟩)]; omega
    · by_cases hr : r (n : Int) = true
      · rw [if_pos hr, if_pos (a.2 (.inr hr)), if_neg hq]; omega
      · rw [if_neg hr, if_neg (fun h => (a.1 h).elim hq hr), if_neg hq]; omega
theorem cnt_same {p q : Int → Bool} (h : ∀ t, p t = true ↔ q t = true) : ∀ n, cnt p n = cnt q n
  | 0 => rfl
  | n + 1 => by
    unfold cnt
    rw [cnt_same h n]
    by_cases hq : q (n : Int) = true
    · rw [if_pos hq, if_pos ((h _).2 hq)]
    · rw [if_neg hq, if_neg (fun h' => hq ((h _).1 h'))]
theorem cnt_none {p : Int → Bool} (h : ∀ t, ¬ p t = true) : ∀ n, cnt p n = 0
  | 0 => rfl
  | n + 1 => by unfold cnt; rw [cnt_none h n, if_neg (h _)]; rfl
theorem cnt_span (a b : Int) (h0 : 0 ≤ a) (h1 : a ≤ b) : ∀ n : Nat, cnt (fun t => decide (a ≤ t ∧ t < b)) n = if (n : Int) ≤ a then 0 else if (n : Int) ≤ b then n - a else b - a
  | 0 => by simp [cnt, h0]
  | n + 1 => by
    have e : cnt (fun t => decide (a ≤ t ∧ t < b)) (n + 1) = cnt (fun t => decide (a ≤ t ∧ t < b)) n + (if decide (a ≤ (n : Int) ∧ (n : Int) < b) = true then 1 else 0) := rfl
    rw [e, cnt_span a b h0 h1 n]
    simp only [decide_eq_true_eq]
    repeat' split
    all_goals omega
def tot : List S29 → Int
  | [] => 0
  | x :: n => x.f1 - x.f0 + tot n
theorem tot_cnt (N : Nat) : ∀ n : List S29, Right n → (∀ x ∈ n, x.f1 ≤ N) → tot n = cnt (fun t => decide (In n t)) N
  | [], _, _ => by
    rw [cnt_none (fun t h => in_nil t (of_decide_eq_true h))]; rfl
  | x :: n, hr, hN => by
    have hx := hr.1 x (by simp)
    have h2 := (List.pairwise_cons.1 hr.2).1
    rw [tot, tot_cnt N n (right_tail hr) (fun y hy => hN y (by simp [hy]))]
    have hxN := hN x (by simp)
    rw [cnt_or (p := fun t => decide (In (x :: n) t)) (q := fun t => decide (x.f0 ≤ t ∧ t < x.f1)) (r := fun t => decide (In n t)) (fun t => ?_) (fun t h => ?_) N, cnt_span _ _ hx.1 (by unfold May at hx; omega)]
    · unfold May at hx
      split
      · omega
      · split <;> omega
    · rw [decide_eq_true_iff, decide_eq_true_iff, decide_eq_true_iff, in_cons]
      exact ⟨fun h => h.elim (fun h => .inl h.2) .inr, fun h => h.elim (fun h => .inl ⟨hx, h⟩) .inr⟩
    · rw [decide_eq_true_iff, decide_eq_true_iff] at h
      obtain ⟨h3, z, hz, hm, h4, h5⟩ := h
      have := h2 z hz
      omega
theorem total_l (n : List S29) (hn : n.length ≤ 1000) (hm : ∀ x ∈ n, May x ∧ x.f1 ≤ 2000) : ∀ (m i k : Nat) (a : Int), n.length - i = m → i ≤ n.length → m < k → 0 ≤ a → a ≤ 2000 * i → span_Total.l0 k a n (n.length : Int) (i : Int) = some (a + tot (n.drop i)) := by
  intro m
  induction m with
  | zero =>
    intro i k a h1 h2 h3 h4 h5
    obtain ⟨k, rfl⟩ : ∃ j, k = j + 1 := ⟨k - 1, by omega⟩
    rw [span_Total.l0, if_neg (by omega), List.drop_eq_nil_of_le (by omega), tot, Int.add_zero]
  | succ m ih =>
    intro i k a h1 h2 h3 h4 h5
    obtain ⟨k, rfl⟩ : ∃ j, k = j + 1 := ⟨k - 1, by omega⟩
    have hx : May (rd_T29 n (i : Int)) ∧ (rd_T29 n (i : Int)).f1 ≤ 2000 := by
      refine hm _ ?_
      unfold rd_T29
      rw [Int.toNat_natCast, List.getD_eq_getElem?_getD, List.getElem?_eq_getElem (by omega)]
      exact List.getElem_mem _
    obtain ⟨⟨hx1, hx2, _⟩, hx3⟩ := hx
    rw [span_Total.l0, if_pos (by omega), if_pos (by omega), if_pos (by omega), w64 (n := (i : Int) + 1) (by omega) (by omega), w64 (n := (rd_T29 n (i : Int)).f1 - (rd_T29 n (i : Int)).f0) (by omega) (by omega), w64 (by omega) (by omega), drop_cons n i (by omega), tot]
    have := ih (i + 1) k (a + ((rd_T29 n (i : Int)).f1 - (rd_T29 n (i : Int)).f0)) (by omega) (by omega) (by omega) (by omega) (by omega)
    rw [Int.natCast_add, Int.natCast_one] at this
    rw [this]
    congr 1; omega
theorem norm_le (l : List S29) (h : ∀ x ∈ l, x.f1 ≤ 2000) : ∀ x ∈ norm l, x.f1 ≤ 2000 := by
  intro x hx
  obtain ⟨h1, h2, _⟩ := norm_spec l
  have hm := h1.1 x hx
  obtain ⟨z, hz, _, h3, h4⟩ := (h2 (x.f1 - 1)).1 ⟨x, hx, hm, by unfold May at hm; omega, by omega⟩
  have := h z hz
  omega
theorem total_ev (l : List S29) (hl : l.length ≤ 1000) (h : ∀ x ∈ l, x.f1 ≤ 2000) (k : Nat) (hk : 3000 ≤ k) : span_Total.f k l = some (cnt (fun t => decide (In l t)) 2000) := by
  obtain ⟨h1, h2, h3⟩ := norm_spec l
  have h4 := norm_le l h
  rw [span_Total.f, norm_ev l hl k hk, Option.bind_some]
  have := total_l (norm l) (by omega) (fun x hx => ⟨h1.1 x hx, h4 x hx⟩) (norm l).length 0 k 0 (by omega) (by omega) (by omega) (by omega) (by omega)
  rw [Int.natCast_zero] at this
  rw [this, List.drop_zero, Int.zero_add, tot_cnt 2000 _ h1 (fun x hx => by have := h4 x hx; omega)]
  exact congrArg some (cnt_same (fun t => by rw [decide_eq_true_iff, decide_eq_true_iff, h2 t]) 2000)
theorem law_l1 (l : List S29) (hl : l.length ≤ 40) (at_ : Int) (N : Nat) (H : ∀ k, N ≤ k → ∀ n, n = cnt (fun t => decide (In l t)) 2000 → remontoirlaw04_SpanTotals.l1 (k + 1) l at_ n 2000 = some true) :
    ∀ (m i k : Nat), 2000 - i = m → i ≤ 2000 → N + 2000 + m < k → remontoirlaw04_SpanTotals.l1 k l at_ (cnt (fun t => decide (In l t)) i) (i : Int) = some true := by
  intro m
  induction m with
  | zero =>
    intro i k h1 h2 h3
    obtain ⟨k, rfl⟩ : ∃ j, k = j + 1 := ⟨k - 1, by omega⟩
    obtain rfl : i = 2000 := by omega
    exact H k (by omega) _ rfl
  | succ m ih =>
    intro i k h1 h2 h3
    obtain ⟨k, rfl⟩ : ∃ j, k = j + 1 := ⟨k - 1, by omega⟩
    have hb := cnt_bound (fun t => decide (In l t)) i
    have hi := ih (i + 1) k (by omega) (by omega) (by omega)
    rw [cnt, Int.natCast_add, Int.natCast_one] at hi
    rw [remontoirlaw04_SpanTotals.l1, if_pos (by omega), rin_ev l (by omega) _ k (by omega), Option.bind_some, w64 (n := (i : Int) + 1) (by omega) (by omega)]
    by_cases h : decide (In l (i : Int)) = true
    · rw [if_pos h] at hi
      rw [if_pos h, w64 (by omega) (by omega)]
      exact hi
    · rw [if_neg h] at hi
      rw [if_neg h]
      simpa using hi
theorem SpanTotals : remontoirlaw04_SpanTotals.Pure := by
  intro l a hl ha
  obtain ⟨K, hK⟩ := knows_ev
  refine ⟨K + 20000, ?_⟩
  have hk : ∀ j, K ≤ j → (remontoirlaw04_knows.f j).bind (fun t => some t) = some true := fun j hj => by rw [hK j hj]; rfl
  unfold remontoirlaw04_SpanTotals.f remontoirlaw04_great.f
  rw [Option.bind_some]
  by_cases hg : (l.length : Int) > 40
  · rw [if_pos (decide_eq_true hg), hk _ (by omega)]
  · rw [if_neg (by simpa using hg)]
    have main : (∀ x ∈ l, x.f1 ≤ 2000) → ∀ k, K + 3001 ≤ k → ∀ n, n = cnt (fun t => decide (In l t)) 2000 → remontoirlaw04_SpanTotals.l1 (k + 1) l a n 2000 = some true := by
      intro h k hk2 n hn
      obtain ⟨h1, h2, h3⟩ := norm_spec l
      have h4 := norm_le l h
      obtain ⟨a1, a2, a3, a4⟩ := cut_spec _ h1 0 a
      obtain ⟨b1, b2, b3, b4⟩ := cut_spec _ h1 a 2000
      have ta := total_ev (cutOf (norm l) 0 a) (by omega) (fun x hx => by obtain ⟨_, _, y, hy, hxy⟩ := a4 x hx; have := h4 y hy; omega) k (by omega)
      have tb := total_ev (cutOf (norm l) a 2000) (by omega) (fun x hx => (b4 x hx).2.1) k (by omega)
      have tl : ∀ j, 3000 ≤ j → span_Total.f j l = some n := fun j hj => hn ▸ total_ev l (by omega) h j hj
      have hsum : cnt (fun t => decide (In (cutOf (norm l) 0 a) t)) 2000 + cnt (fun t => decide (In (cutOf (norm l) a 2000) t)) 2000 = n := by
        rw [hn]
        refine (cnt_or (fun t => ?_) (fun t h' => ?_) 2000).symm
        · rw [decide_eq_true_iff, decide_eq_true_iff, decide_eq_true_iff, a2 t, b2 t, h2 t]
          constructor
          · intro hi
            obtain ⟨z, hz, hm, h5, h6⟩ := id hi
            have := h z hz
            unfold May at hm
            by_cases ht : t < a
            · exact .inl ⟨hi, by omega, ht⟩
            · exact .inr ⟨hi, by omega, by omega⟩
          · rintro (h' | h') <;> exact h'.1
        · rw [decide_eq_true_iff, decide_eq_true_iff, a2 t, b2 t] at h'
          omega
      have hnb := cnt_bound (fun t => decide (In l t)) 2000
      obtain ⟨k, rfl⟩ : ∃ j, k = j + 1 := ⟨k - 1, by omega⟩
      rw [remontoirlaw04_SpanTotals.l1, if_neg (by omega), cut_ev l (by omega) _ _ _ (by omega), Option.bind_some, ta, Option.bind_some, cut_ev l (by omega) _ _ _ (by omega), Option.bind_some, tb, Option.bind_some]
      have j1 : remontoirlaw04_SpanTotals.j2 (k + 1) l n (cnt (fun t => decide (In (cutOf (norm l) 0 a) t)) 2000) (cnt (fun t => decide (In (cutOf (norm l) a 2000) t)) 2000) true = some true := by
        rw [remontoirlaw04_SpanTotals.j2, if_pos rfl, tl k (by omega), Option.bind_some, if_pos rfl, hk k (by omega)]
      by_cases c1 : a < 0
      · rw [if_pos c1, j1]
      · rw [if_neg c1]
        by_cases c2 : a > 2000
        · rw [decide_eq_true c2, j1]
        · rw [decide_eq_false c2, remontoirlaw04_SpanTotals.j2, if_neg (by simp), tl k (by omega), Option.bind_some, if_pos rfl, hsum, w64 (by omega) (by omega), if_pos rfl, hk k (by omega)]
    have loop : ∀ (m i k : Nat), l.length - i = m → i ≤ l.length → (∀ x ∈ l.take i, x.f1 ≤ 2000) → K + 9000 + m < k → remontoirlaw04_SpanTotals.l0 k l a (i : Int) = some true := by
      intro m
      induction m with
      | zero =>
        intro i k h1 h2 h3 h4
        obtain ⟨k, rfl⟩ : ∃ j, k = j + 1 := ⟨k - 1, by omega⟩
        rw [remontoirlaw04_SpanTotals.l0, if_neg (by omega)]
        rw [List.take_of_length_le (by omega)] at h3
        have := law_l1 l (by omega) a (K + 3001) (main h3) 2000 0 k (by omega) (by omega) (by omega)
        simpa [cnt] using this
      | succ m ih =>
        intro i k h1 h2 h3 h4
        obtain ⟨k, rfl⟩ : ∃ j, k = j + 1 := ⟨k - 1, by omega⟩
        rw [remontoirlaw04_SpanTotals.l0, if_pos (by omega), if_pos (by omega)]
        by_cases h : (rd_T29 l (i : Int)).f1 > 2000
        · rw [if_pos h, hk k (by omega)]
        · rw [if_neg h, w64 (by omega) (by omega)]
          refine ih (i + 1) k (by omega) (by omega) (fun x hx => ?_) (by omega)
          rw [take_snoc l i (by omega), List.mem_append, List.mem_singleton] at hx
          rcases hx with hx | rfl
          · exact h3 x hx
          · omega
    have := loop l.length 0 (K + 20000) (by omega) (by omega) (by simp) (by omega)
    simpa using this
end Go.Proofs.Ytdfokaldjfpkhaa.Pure
