/- The statement RingRows: what is pushed is popped in its order, and nothing else: as many pushes and pops as are told come to what a row comes to. No condition. -/
import Derived.Test.YteddflcloeelhaaFRingLem
import Derived.Test.YteddflcloeelhaaFRingx10
namespace Go.Proofs.Yteddflcloeelhaa.Pure
open Go.RowKit Go.Proofs.Yteddflcloeelhaa.FRing Go.Proofs.YteddflcloeelhaaW.PrintWords Go.Proofs.YteddflcloeelhaaW.PrintLast Go.Proofs.Yteddflcloeelhaa.RingLem
set_option linter.unusedSimpArgs false
set_option linter.unusedVariables false

theorem newr_ev (n : Int) : ring_New.f n = if 1 ≤ n ∧ n ≤ 4 then some (List.replicate n.toNat 0, 0, 0, 0) else some ([], 0, 0, 1) := by
  unfold ring_New.f
  by_cases h1 : n < 1
  · rw [if_pos h1, if_neg (by omega)]
  · rw [if_neg h1]
    by_cases h2 : n > 4
    · rw [if_pos h2, if_neg (by omega)]
    · rw [if_neg h2, if_pos (by omega), if_pos (by omega), if_pos (by omega)]

theorem rows_l0 (n : Int) (hn : 1 ≤ n ∧ n ≤ 4) (ls : List Int) (ps : List Bool) (e : Nat) (he : (e : Int) ≤ ls.length ∧ (e : Int) ≤ ps.length ∧ e ≤ 60) (he2 : e = ls.length ∨ e = ps.length ∨ e = 60) (hs : ls.length ≤ 9223372036854775807 ∧ ps.length ≤ 9223372036854775807) (d : Nat) :
    ∀ (i : Nat) (l : List Int) (f m : Nat), i + d = e → l.length = n.toNat → f < l.length → m ≤ l.length → ∃ K, ∀ k, K ≤ k → remontoirlaw03_RingRows.l0 k n ls ps (msgs l f m) (i : Int) l (f : Int) (m : Int) = some true := by
  obtain ⟨K0, hK0⟩ := knows_ev
  have hl0 : ∀ (i : Nat), i ≤ e → ∀ k x9 l f m, remontoirlaw03_RingRows.l0 (k + 1) n ls ps x9 (i : Int) l f m = remontoirlaw03_RingRows.j1 k n ls ps x9 (i : Int) (decide (i < e)) l f m := by
    intro i hi k x9 l f m
    rw [remontoirlaw03_RingRows.l0]
    by_cases h1 : (i : Int) < (ls.length : Int)
    · rw [if_pos h1]
      by_cases h2 : (i : Int) < (ps.length : Int)
      · rw [if_pos h2]
        congr 1
        apply Bool.eq_iff_iff.2
        rw [decide_eq_true_iff, decide_eq_true_iff]
        omega
      · rw [if_neg h2, decide_eq_false (by omega)]
    · rw [if_neg h1, decide_eq_false (by omega)]
  induction d with
  | zero =>
    intro i l f m hi hl hf hm
    refine ⟨K0 + 300, fun k hk => ?_⟩
    obtain ⟨k, rfl⟩ : ∃ j, k = j + 3 := ⟨k - 3, by omega⟩
    have hr : Rg l (f : Int) (m : Int) := by unfold Rg; omega
    rw [hl0 i (by omega), decide_eq_false (by omega), remontoirlaw03_RingRows.j1, if_neg (by simp), list_ev l (by omega) _ _ _ (by omega), if_pos hr, Option.bind_some, Int.toNat_natCast, Int.toNat_natCast, same_ev _ _ (by rw [msgs_length]; omega) _ (by rw [msgs_length]; omega), Option.bind_some, if_pos (by simp), right_ev _ _ _ _ (by omega), Option.bind_some, if_pos (by simpa using hr), hK0 _ (by omega), Option.bind_some, remontoirlaw03_RingRows.j6]
  | succ d ih =>
    intro i l f m hi hl hf hm
    have hr : Rg l (f : Int) (m : Int) := by unfold Rg; omega
    by_cases hp : rdOf false ps (i : Int) = true
    · have hj2 : ∀ (x : List Int) (g q : Nat) K, (∀ k, K ≤ k → remontoirlaw03_RingRows.l0 k n ls ps x ((i + 1 : Nat) : Int) l (g : Int) (q : Int) = some true) → ∀ k, K + 3 ≤ k → remontoirlaw03_RingRows.j3 k n ls ps x (i : Int) l (g : Int) (q : Int) = some true := by
        intro x g q K hK k hk
        obtain ⟨k, rfl⟩ : ∃ j, k = j + 2 := ⟨k - 2, by omega⟩
        rw [remontoirlaw03_RingRows.j3, remontoirlaw03_RingRows.j5, w64 (by omega) (by omega)]
        exact hK k (by omega)
      by_cases hm0 : m = 0
      · subst hm0
        obtain ⟨K, hK⟩ := ih (i + 1) l f 0 (by omega) hl hf (by omega)
        refine ⟨K + 9, fun k hk => ?_⟩
        obtain ⟨k, rfl⟩ : ∃ j, k = j + 3 := ⟨k - 3, by omega⟩
        have h0 : ((msgs l f 0).length : Int) = 0 := by rw [msgs_length]; rfl
        rw [hl0 i (by omega), decide_eq_true (by omega), remontoirlaw03_RingRows.j1, if_pos rfl, if_pos (by omega), if_pos (by omega), if_pos hp, pop_ev l (by omega) _ _ _ (by omega), if_pos hr, if_pos (show ((0 : Nat) : Int) = 0 from rfl), Option.bind_some]
        dsimp only
        rw [if_pos h0, if_pos rfl, if_neg (by omega), remontoirlaw03_RingRows.j2, if_neg (by simp), if_neg (by omega)]
        exact hj2 _ f 0 K hK _ (by omega)
      · obtain ⟨q, rfl⟩ : ∃ q, m = q + 1 := ⟨m - 1, by omega⟩
        have hpl := place_lt l (by omega) f 1
        obtain ⟨K, hK⟩ := ih (i + 1) l (place l f 1) q (by omega) hl hpl (by omega)
        refine ⟨K + 9, fun k hk => ?_⟩
        obtain ⟨k, rfl⟩ : ∃ j, k = j + 3 := ⟨k - 3, by omega⟩
        have h0 : ((msgs l f (q + 1)).length : Int) = ((q + 1 : Nat) : Int) := by rw [msgs_length]
        have h1 : rd (msgs l f (q + 1)) 0 = rd l (f : Int) := by rw [msgs_pop l f q hf]; rfl
        have h2 : (msgs l f (q + 1)).drop (1 : Int).toNat = msgs l (place l f 1) q := by rw [msgs_pop l f q hf]; rfl
        rw [hl0 i (by omega), decide_eq_true (by omega), remontoirlaw03_RingRows.j1, if_pos rfl, if_pos (by omega), if_pos (by omega), if_pos hp, pop_ev l (by omega) _ _ _ (by omega), if_pos hr, if_neg (by omega), Option.bind_some]
        dsimp only
        rw [if_neg (by omega), if_pos (by omega), if_pos rfl, if_pos (by omega), h1, remontoirlaw03_RingRows.j2, if_neg (by simp), if_pos (by omega), if_pos (by omega), h2, Int.toNat_natCast, show ((q + 1 : Nat) : Int) - 1 = (q : Int) by omega]
        exact hj2 _ _ q K hK _ (by omega)
    · by_cases hfull : m = l.length
      · obtain ⟨K, hK⟩ := ih (i + 1) l f m (by omega) hl hf hm
        refine ⟨K + 9, fun k hk => ?_⟩
        obtain ⟨k, rfl⟩ : ∃ j, k = j + 4 := ⟨k - 4, by omega⟩
        have h0 : ((msgs l f m).length : Int) = (m : Int) := by rw [msgs_length]
        rw [hl0 i (by omega), decide_eq_true (by omega), remontoirlaw03_RingRows.j1, if_pos rfl, if_pos (by omega), if_pos (by omega), if_neg hp, if_pos (by omega), push_ev l (by omega) _ _ _ _ (by omega), if_pos hr, if_pos (by omega), Option.bind_some]
        dsimp only
        rw [h0, decide_eq_false (by omega), if_neg (by decide), if_neg (by decide), remontoirlaw03_RingRows.j4, remontoirlaw03_RingRows.j5, w64 (by omega) (by omega)]
        exact hK _ (by omega)
      · have hpl := place_lt l (by omega) f m
        obtain ⟨K, hK⟩ := ih (i + 1) (l.set (place l f m) (rd ls i)) f (m + 1) (by omega) (by simpa using hl) (by simpa using hf) (by simp; omega)
        rw [msgs_push l f m _ hf (by omega)] at hK
        refine ⟨K + 9, fun k hk => ?_⟩
        obtain ⟨k, rfl⟩ : ∃ j, k = j + 4 := ⟨k - 4, by omega⟩
        have h0 : ((msgs l f m).length : Int) = (m : Int) := by rw [msgs_length]
        rw [hl0 i (by omega), decide_eq_true (by omega), remontoirlaw03_RingRows.j1, if_pos rfl, if_pos (by omega), if_pos (by omega), if_neg hp, if_pos (by omega), push_ev l (by omega) _ _ _ _ (by omega), if_pos hr, if_neg (by omega), Option.bind_some]
        dsimp only
        rw [h0, decide_eq_true (by omega), if_neg (by decide), if_pos rfl, Option.bind_some, if_pos (by simp [msgs_length]; omega), Option.bind_some, Option.bind_some, if_pos (by simp [msgs_length]; omega), remontoirlaw03_RingRows.j4, remontoirlaw03_RingRows.j5, w64 (by omega) (by omega), List.nil_append, Int.toNat_natCast, Int.toNat_natCast]
        exact hK _ (by omega)
theorem RingRows : remontoirlaw03_RingRows.Pure := by
  intro n ls ps gn gl gp
  obtain ⟨K, hK⟩ := knows_ev
  by_cases hn : 1 ≤ n ∧ n ≤ 4
  · obtain ⟨K2, hK2⟩ := rows_l0 n hn ls ps (min (min ls.length ps.length) 60) (by omega) (by omega) ⟨gl.1, gp.1⟩ (min (min ls.length ps.length) 60) 0 (List.replicate n.toNat 0) 0 0 (by omega) (by simp) (by simp; omega) (by omega)
    refine ⟨K2, ?_⟩
    unfold remontoirlaw03_RingRows.f
    rw [newr_ev, if_pos hn, Option.bind_some]
    dsimp only
    rw [if_pos rfl]
    exact hK2 K2 (Nat.le_refl _)
  · refine ⟨K, ?_⟩
    unfold remontoirlaw03_RingRows.f
    rw [newr_ev, if_neg hn, Option.bind_some]
    dsimp only
    rw [if_neg (by decide), if_pos (show ((([] : List Int).length : Nat) : Int) = 0 from rfl), hK _ (by omega)]
    rfl

end Go.Proofs.Yteddflcloeelhaa.Pure
