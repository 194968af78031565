/- The statement TableBack over plain data: true. No condition. -/
import Derived.Test.YtkfkghnmbemdiaaFTableLem
import Derived.Test.YtkfkghnmbemdiaaFTablex8
import Derived.Test.YtkfkghnmbemdiaaFTableLemOf
namespace Go.Proofs.Ytkfkghnmbemdiaa.Pure
open Go.RowKit Go.Proofs.Ytkfkghnmbemdiaa.FTable Go.Proofs.Ytkfkghnmbemdiaa.TableLem Go.Proofs.Ytkfkghnmbemdiaa.TableOf Go.Proofs.YtkfkghnmbemdiaaW.PrintWords Go.Proofs.YtkfkghnmbemdiaaW.PrintLast
set_option linter.unusedSimpArgs false
set_option linter.unusedVariables false
noncomputable instance (x : List Int) : Decidable (okt x) := Classical.propDecidable _
/-- The law's own loop: are all ticks right? -/
theorem loop (x : List Int) (hx : x.length < 1000) (e f g : Int) (l m : List S46) (b0 : Bool) {F : Nat} {r : Option Bool} : ∀ n (i : Nat) (b : Bool), x.length = i + n → (b = true ↔ b0 = true ∧ ∀ j : Nat, j < i → -1 ≤ rd x (j : Int) ∧ rd x (j : Int) ≤ 3) →
    (∀ k, F ≤ k → remontoirlaw13_TableBack.l0 k x e (decide (b0 = true ∧ okt x)) (x.length : Int) f l g m = r) → ∀ k, F + n ≤ k → remontoirlaw13_TableBack.l0 k x e b i f l g m = r
  | 0, i, b, hn, hb, H, k, hk => by
    have : b = decide (b0 = true ∧ okt x) := by
      rw [Bool.eq_iff_iff, hb, decide_eq_true_iff]; unfold okt; rw [show x.length = i by omega]
    rw [this, show (i : Int) = (x.length : Int) by omega]; exact H k (by omega)
  | n + 1, i, b, hn, hb, H, k, hk => by
    obtain ⟨k, rfl⟩ : ∃ k', k = k' + 1 := ⟨k - 1, by omega⟩
    have ih := fun b' h => loop x hx e f g l m b0 n (i + 1) b' (by omega) h H k (by omega)
    have up : ∀ b' : Bool, (b' = true ↔ b = true ∧ -1 ≤ rd x (i : Int) ∧ rd x (i : Int) ≤ 3) → (b' = true ↔ b0 = true ∧ ∀ j : Nat, j < i + 1 → -1 ≤ rd x (j : Int) ∧ rd x (j : Int) ≤ 3) := by
      intro b' hb'
      rw [hb', hb]
      constructor
      · rintro ⟨⟨q1, q2⟩, q3⟩
        refine ⟨q1, fun j hj => ?_⟩
        by_cases c : j = i
        · subst c; exact q3
        · exact q2 j (by omega)
      · rintro ⟨q1, q2⟩
        exact ⟨⟨q1, fun j hj => q2 j (by omega)⟩, q2 i (by omega)⟩
    rw [remontoirlaw13_TableBack.l0, if_pos (by omega), w64 (by omega) (by omega)]
    by_cases c : b = true
    · rw [if_pos c, if_pos (by omega)]
      by_cases c1 : rd x (i : Int) ≥ -1
      · rw [if_pos c1]
        exact ih _ (up _ (by rw [decide_eq_true_iff]; constructor; (· intro h; exact ⟨c, by omega, h⟩); (· intro h; exact h.2.2)))
      · rw [if_neg c1]
        exact ih _ (up _ (by constructor; (· intro h; cases h); (· intro h; omega)))
    · rw [if_neg c]
      exact ih _ (up _ (by constructor; (· intro h; cases h); (· intro h; exact absurd h.1 c)))
theorem TableBack : remontoirlaw13_TableBack.Pure := by
  intro x f l hx hf hl
  obtain ⟨K, hK⟩ := knows_ev
  have hf' := wf_i64 hf
  obtain ⟨k, hk⟩ : ∃ k, k = K + 100000 := ⟨_, rfl⟩
  have k1 : K ≤ k := by omega
  have k2 : 100000 ≤ k := by omega
  have k3 : K + 100000 ≤ k := by omega
  clear hk
  refine ⟨k + 3, ?_⟩
  have kn : remontoirlaw13_TableBack.j0 (k + 3) x true f l = some true := by
    rw [remontoirlaw13_TableBack.j0, if_pos rfl, hK _ (by omega)]; rfl
  unfold remontoirlaw13_TableBack.f
  by_cases g1 : x.length > 300
  · rw [if_pos (by omega)]; exact kn
  rw [if_neg (by omega)]
  by_cases g2 : (l.length : Int) > 100
  · rw [decide_eq_true g2]; exact kn
  rw [decide_eq_false g2, remontoirlaw13_TableBack.j0, if_neg (by decide)]
  have j3 : ∀ k', K + 60000 ≤ k' → remontoirlaw13_TableBack.j3 k' false f l = some true := by
    intro k' hk'
    obtain ⟨k', rfl⟩ : ∃ q, k' = q + 1 := ⟨k' - 1, by omega⟩
    rw [remontoirlaw13_TableBack.j3, if_neg (by decide)]
    by_cases c : TR f l
    · rw [Ticks_ev f l (by omega) c k' (by omega), Option.bind_some, if_pos rfl]
      dsimp only
      rw [Of_back f l c k' (by omega), Option.bind_some, if_pos rfl]
      dsimp only
      rw [Same_ev f f l l rfl rfl (by omega) k' (by omega), Option.bind_some, if_pos rfl, hK _ (by omega)]; rfl
    · rw [Ticks_bad f hf' l (by omega) c k' (by omega), Option.bind_some, if_neg (by decide), if_pos (by simp), hK _ (by omega)]; rfl
  by_cases ok : 0 < x.length ∧ x.length ≤ 240 ∧ okt x
  · obtain ⟨W, e, w1, w2, w3, _, w5, w4⟩ := Of_good x ok.1 ok.2.1 ok.2.2
    rw [e _ (by omega), Option.bind_some, if_pos (by omega), decide_eq_true (show (x.length : Int) ≤ 240 by omega), remontoirlaw13_TableBack.j1]
    refine loop x (by omega) _ _ _ _ _ true (F := K + 90000) x.length 0 true (by omega) ⟨fun _ => ⟨rfl, fun j hj => by omega⟩, fun _ => rfl⟩ ?_ _ (by omega)
    intro k' hk'
    obtain ⟨k', rfl⟩ : ∃ q, k' = q + 1 := ⟨k' - 1, by omega⟩
    rw [decide_eq_true ⟨rfl, ok.2.2⟩, remontoirlaw13_TableBack.l0, if_neg (by omega), if_pos rfl, Ticks_ev _ W (by omega) w1 k' (by omega), Option.bind_some, if_pos rfl, if_pos rfl]
    dsimp only
    rw [SameInts_ev _ x (by rw [Int.toNat_natCast]; exact w2) (by rw [tk_len]; omega) k' (by rw [tk_len]; omega), Option.bind_some, if_pos rfl, Right_ev _ (by omega) W (by omega) k' (by omega), Option.bind_some, decide_eq_true w1]
    exact j3 k' (by omega)
  · rw [Of_bad x ok _ (by omega), Option.bind_some]
    have fin : ∀ b0 : Bool, (b0 = true ↔ 0 < x.length ∧ x.length ≤ 240) → remontoirlaw13_TableBack.j1 (k + 2) x 1 b0 f l 0 [] = some true := by
      intro b0 hb0
      rw [remontoirlaw13_TableBack.j1]
      refine loop x (by omega) _ _ _ _ _ b0 (F := K + 90000) x.length 0 b0 (by omega) ⟨fun h => ⟨h, fun j hj => by omega⟩, fun h => h.1⟩ ?_ _ (by omega)
      intro k' hk'
      obtain ⟨k', rfl⟩ : ∃ q, k' = q + 1 := ⟨k' - 1, by omega⟩
      rw [decide_eq_false (fun q => ok ⟨(hb0.1 q.1).1, (hb0.1 q.1).2, q.2⟩), remontoirlaw13_TableBack.l0, if_neg (by omega), if_neg (by decide), Same_ev 0 0 [] [] rfl rfl (by simp) k' (by simp; omega), Option.bind_some, if_pos rfl, if_pos rfl, hK _ (by omega)]; rfl
    by_cases c : (x.length : Int) > 0
    · rw [if_pos c]
      exact fin _ (by rw [decide_eq_true_iff]; omega)
    · rw [if_neg c]
      exact fin _ (by constructor; (· intro h; cases h); (· intro h; omega))
end Go.Proofs.Ytkfkghnmbemdiaa.Pure
