/- The statement TableWindows over plain data: true. No condition. -/
import Derived.Test.YtkfkghnmbemdiaaFTableLem
import Derived.Test.YtkfkghnmbemdiaaFTablex10
import Derived.Test.YtkfkghnmbemdiaaFTableLemOf
namespace Go.Proofs.Ytkfkghnmbemdiaa.Pure
open Go.RowKit Go.Proofs.Ytkfkghnmbemdiaa.FTable Go.Proofs.Ytkfkghnmbemdiaa.TableLem Go.Proofs.Ytkfkghnmbemdiaa.TableOf Go.Proofs.YtkfkghnmbemdiaaW.PrintWords Go.Proofs.YtkfkghnmbemdiaaW.PrintLast
set_option linter.unusedSimpArgs false
set_option linter.unusedVariables false
theorem sumL_ge {f : Int} : ∀ {e p : Int} {l : List S46}, RI f e p l → e ≤ f → 0 ≤ sumL l ∧ sumL l ≤ f - e
  | e, p, [], _, h => by simp [sumL]; omega
  | e, p, w :: l, h, he => by
    obtain ⟨h1, h2⟩ := h
    unfold okw at h1
    have := sumL_ge h2 (by omega)
    rw [sumL]; omega
theorem cnt_le : ∀ l : List Int, 0 ≤ cnt l ∧ cnt l ≤ l.length
  | [] => by simp [cnt]
  | x :: l => by
    have := cnt_le l
    rw [cnt, List.length_cons]; split <;> omega
theorem wl0 (x : List Int) (t f : Int) (W : List S46) (hW : W.length ≤ 240) {F : Nat} {r : Option Bool} (hf : f ≤ 240) : ∀ n (i : Nat) (s e p : Int), W.length = i + n → 0 ≤ e → e ≤ f → RI f e p (W.drop i) → 0 ≤ s → s ≤ e → (∀ k, F ≤ k → remontoirlaw13_TableWindows.l1 k x t (s + sumL (W.drop i)) 0 0 f W = r) → ∀ k, F + n + 1 ≤ k → remontoirlaw13_TableWindows.l0 k x t s 0 i f W = r
  | 0, i, s, e, p, hn, e0, e1, h, s0, s1, H, k, hk => by
    obtain ⟨k, rfl⟩ : ∃ k', k = k' + 1 := ⟨k - 1, by omega⟩
    have h_ := H k (by omega)
    rw [List.drop_of_length_le (by omega), sumL, Int.add_zero] at h_
    rw [remontoirlaw13_TableWindows.l0, if_neg (by omega)]; exact h_
  | n + 1, i, s, e, p, hn, e0, e1, h, s0, s1, H, k, hk => by
    obtain ⟨k, rfl⟩ : ∃ k', k = k' + 1 := ⟨k - 1, by omega⟩
    have hw := drop_cons W i (by omega)
    rw [hw] at h H
    obtain ⟨h1, h2⟩ := h
    unfold okw at h1
    rw [remontoirlaw13_TableWindows.l0, if_pos (by omega), if_pos (by omega), w64 (n := s + _) (by omega) (by omega), w64 (by omega) (by omega)]
    refine wl0 (F := F) x t f W hW hf n (i + 1) _ _ _ (by omega) (by omega) (by omega) h2 (by omega) (by omega) (fun k hk => ?_) k (by omega)
    have := H k hk
    rw [sumL, ← Int.add_assoc] at this
    exact this
theorem wl1 (x : List Int) (t f : Int) (W : List S46) (s : Int) (hx : x.length ≤ 240) {F : Nat} {r : Option Bool} : ∀ n (i : Nat) (c : Int), x.length = i + n → c = cnt (x.take i) → (∀ k, F ≤ k → remontoirlaw13_TableWindows.l1 k x t s (cnt x) (x.length : Int) f W = r) → ∀ k, F + n ≤ k → remontoirlaw13_TableWindows.l1 k x t s c i f W = r
  | 0, i, c, hn, hc, H, k, hk => by
    rw [show (i : Int) = (x.length : Int) by omega, hc, List.take_of_length_le (by omega)]; exact H k (by omega)
  | n + 1, i, c, hn, hc, H, k, hk => by
    obtain ⟨k, rfl⟩ : ∃ k', k = k' + 1 := ⟨k - 1, by omega⟩
    have b := cnt_le (x.take i)
    rw [List.length_take] at b
    have hs := cnt_snoc (x.take i) (rd x (i : Int))
    rw [← take_snoc x i (by omega)] at hs
    rw [remontoirlaw13_TableWindows.l1, if_pos (by omega), if_pos (by omega), w64 (n := (i : Int) + 1) (by omega) (by omega)]
    by_cases c1 : rd x (i : Int) ≥ 0
    · rw [if_pos c1, w64 (by omega) (by omega)]
      rw [if_pos (by omega)] at hs
      exact wl1 x t f W s hx n (i + 1) _ (by omega) (by omega) H k (by omega)
    · rw [if_neg c1]
      rw [if_neg (by omega)] at hs
      exact wl1 x t f W s hx n (i + 1) _ (by omega) (by omega) H k (by omega)
theorem TableWindows : remontoirlaw13_TableWindows.Pure := by
  intro x t hx ht
  obtain ⟨K, hK⟩ := knows_ev
  obtain ⟨k, hk⟩ : ∃ k, k = K + 1000 := ⟨_, rfl⟩
  have k1 : K ≤ k := by omega
  have k2 : 1000 ≤ k := by omega
  have k3 : K + 1000 ≤ k := by omega
  clear hk
  refine ⟨k + 1000, ?_⟩
  have kn : remontoirlaw13_TableWindows.j0 (k + 1000) x t true = some true := by
    rw [remontoirlaw13_TableWindows.j0, if_pos rfl, hK _ (by omega)]; rfl
  unfold remontoirlaw13_TableWindows.f
  by_cases g1 : x.length > 300
  · rw [if_pos (by omega)]; exact kn
  rw [if_neg (by omega)]
  by_cases g2 : t < 0
  · rw [if_pos g2]; exact kn
  rw [if_neg g2]
  by_cases g3 : t > 10000
  · rw [decide_eq_true g3]; exact kn
  rw [decide_eq_false g3, remontoirlaw13_TableWindows.j0, if_neg (by decide)]
  by_cases ok : 0 < x.length ∧ x.length ≤ 240 ∧ okt x
  · obtain ⟨W, e, w1, w2, w3, w6, w5, w4⟩ := Of_good x ok.1 ok.2.1 ok.2.2
    rw [e _ (by omega), Option.bind_some, if_pos rfl]
    refine wl0 x t _ W w5 (F := k + 300) (by omega) W.length 0 0 0 (-1) (by omega) (by omega) (by omega) (by rw [List.drop_zero]; exact w1.1) (by omega) (by omega) (fun k' hk' => ?_) _ (by omega)
    rw [List.drop_zero, Int.zero_add, w6]
    refine wl1 x t _ W _ ok.2.1 (F := k) x.length 0 0 (by omega) rfl (fun k' hk' => ?_) _ (by omega)
    obtain ⟨k', rfl⟩ : ∃ q, k' = q + 1 := ⟨k' - 1, by omega⟩
    have tm : 0 ≤ Int.tmod t (x.length : Int) ∧ Int.tmod t (x.length : Int) < (x.length : Int) := by
      rw [Int.tmod_eq_emod_of_nonneg (by omega)]; exact ⟨Int.emod_nonneg _ (by omega), Int.emod_lt_of_pos _ (by omega)⟩
    have per : Int.tmod (t + (x.length : Int)) (x.length : Int) = Int.tmod t (x.length : Int) := by
      rw [Int.tmod_eq_emod_of_nonneg (by omega), Int.tmod_eq_emod_of_nonneg (by omega), Int.add_emod_right]
    rw [remontoirlaw13_TableWindows.l1, if_neg (by omega), if_pos rfl, if_pos rfl, At_ev _ (by omega) W (by omega) t k' (by omega), Option.bind_some, if_neg (by omega), if_pos tm.1, if_pos tm.2, if_pos (by rw [if_pos ⟨w1, by omega⟩]; exact w3 _ tm.1 tm.2),
      w64 (n := t + (x.length : Int)) (by omega) (by omega), At_ev _ (by omega) W (by omega) (t + (x.length : Int)) k' (by omega), Option.bind_some, Option.bind_some, if_pos (by rw [if_pos ⟨w1, by omega⟩, if_pos ⟨w1, by omega⟩, per]), hK _ (by omega)]; rfl
  · rw [Of_bad x ok _ (by omega), Option.bind_some, if_neg (by decide), if_pos (by simp), hK _ (by omega)]; rfl
end Go.Proofs.Ytkfkghnmbemdiaa.Pure
