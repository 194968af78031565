/- The statement SynthShares over plain data: true. No condition. -/
import Derived.Test.YtkfkghnmbemdiaaFSynthLem
import Derived.Test.YtkfkghnmbemdiaaFSynthx8
import Derived.Test.YtkfkghnmbemdiaaFSynthLemEdf
namespace Go.Proofs.Ytkfkghnmbemdiaa.Pure
open Go.RowKit Go.Proofs.Ytkfkghnmbemdiaa.FSynth Go.Proofs.Ytkfkghnmbemdiaa.SynthArith Go.Proofs.Ytkfkghnmbemdiaa.SynthLem Go.Proofs.Ytkfkghnmbemdiaa.SynthLay Go.Proofs.Ytkfkghnmbemdiaa.SynthSpec Go.Proofs.Ytkfkghnmbemdiaa.SynthEdf Go.Proofs.YtkfkghnmbemdiaaW.PrintWords Go.Proofs.YtkfkghnmbemdiaaW.PrintLast Go.Proofs.YtkfkghnmbemdiaaW.PrintMore
set_option linter.unusedSimpArgs false
set_option linter.unusedVariables false
/-- How many ticks are somebody's. -/
def some_ (G : List Int) : Nat → Int
  | 0 => 0
  | n + 1 => some_ G n + if 0 ≤ rd G (n : Int) then 1 else 0
theorem some_le (G : List Int) : ∀ n, 0 ≤ some_ G n ∧ some_ G n ≤ n
  | 0 => by simp [some_]
  | n + 1 => by have := some_le G n; rw [some_]; split <;> omega
theorem some_sum (l : List S54) (G : List Int) (h : ∀ t : Nat, t < G.length → rd G (t : Int) < l.length) : ∀ n, n ≤ G.length → some_ G n = sumC G 0 n l.length
  | 0, _ => (sumC_zero G 0 l.length).symm
  | n + 1, hn => by
    rw [some_, sumC_succ, some_sum l G h n (by omega), Nat.zero_add]
    by_cases c : 0 ≤ rd G (n : Int)
    · rw [if_pos c, if_pos ⟨c, h n (by omega)⟩]
    · rw [if_neg c, if_neg (fun q => c q.1)]
theorem ct_whole {l : List S54} {fr : Nat} {G : List Int} (L : Laid l fr G) {j : Nat} (hj : j < l.length) : ∀ m : Nat, m * p l j ≤ fr → ct G j 0 (m * p l j) = m * Bu l j
  | 0, _ => by simp [ct]
  | m + 1, h => by
    have h' := h
    rw [Nat.add_mul, Nat.one_mul] at h'
    have ih := ct_whole L hj m (by omega)
    have ex := exact L hj m h
    rw [ct_cnt G j _ _ (by rw [L.len]; omega)] at ex
    rw [Nat.add_mul, Nat.one_mul, ct_add, ih, Nat.zero_add, ex, show ((m + 1 : Nat) : Int) = (m : Int) + 1 from rfl, Int.add_mul, Int.one_mul]
theorem sum_share {l : List S54} {fr : Nat} {G : List Int} (L : Laid l fr G) : ∀ i, i ≤ l.length → sumC G 0 fr i = shN l fr i
  | 0, _ => rfl
  | i + 1, hi => by
    obtain ⟨e, e1, e2⟩ := p_eq L.rt (i := i) (by omega)
    have hd := L.div i (by omega)
    rw [e] at hd
    obtain ⟨c, hc⟩ := Int.natCast_dvd_natCast.1 hd
    have hq : (fr : Int) / Pe l i = (c : Int) := by
      rw [e, hc, Int.natCast_mul]; exact Int.mul_ediv_cancel_left _ (by omega)
    have := ct_whole L (j := i) (by omega) c (by rw [hc, Nat.mul_comm]; exact Nat.le_refl _)
    rw [sumC, shN, sum_share L i (by omega), hq]
    rw [Nat.mul_comm c, ← hc] at this
    rw [this]
theorem shares_l0 (K : Nat) (hK : ∀ k, K ≤ k → remontoirlaw12_knows.f k = some true) (G : List Int) (hG : G.length ≤ 240) (s : Int) (hs : some_ G G.length = s) : ∀ n (i : Nat), G.length = i + n → ∀ k, K + n + 1 ≤ k → remontoirlaw12_SynthShares.l0 k G 0 s G.length (some_ G i) i = some true
  | 0, i, hn, k, hk => by
    obtain ⟨k, rfl⟩ : ∃ k', k = k' + 1 := ⟨k - 1, by omega⟩
    rw [remontoirlaw12_SynthShares.l0, if_neg (by omega), if_pos rfl, if_pos rfl, if_pos (by rw [← hs, show G.length = i by omega]), hK _ (by omega)]; rfl
  | n + 1, i, hn, k, hk => by
    obtain ⟨k, rfl⟩ : ∃ k', k = k' + 1 := ⟨k - 1, by omega⟩
    have b := some_le G i
    rw [remontoirlaw12_SynthShares.l0, if_pos (by omega), if_pos (by omega), w64 (n := (i : Int) + 1) (by omega) (by omega)]
    have ih := shares_l0 K hK G hG s hs n (i + 1) (by omega) k (by omega)
    rw [some_] at ih
    by_cases c : rd G (i : Int) ≥ 0
    · rw [if_pos c, w64 (by omega) (by omega)]
      rw [if_pos c] at ih; exact ih
    · rw [if_neg c]
      rw [if_neg c, Int.add_zero] at ih; exact ih
set_option maxRecDepth 100000 in
theorem SynthShares : remontoirlaw12_SynthShares.Pure := by
  intro l hl
  obtain ⟨K, hK⟩ := knows_ev
  by_cases hg : l.length > 20
  · exact ⟨K, by unfold remontoirlaw12_SynthShares.f; rw [if_pos (by omega), hK K (Nat.le_refl _)]; rfl⟩
  · refine ⟨K + 300000, ?_⟩
    unfold remontoirlaw12_SynthShares.f
    rcases Lay_ev l with ⟨fr, G, L, h⟩ | ⟨fr, e, G, L, h⟩ | ⟨e, he, h⟩
    · have hh := h (K + 300000) (by omega)
      have hm := L.most
      have hsh := shN_eq l fr l.length 0
      rw [Nat.zero_add, shN, Int.zero_add] at hsh
      have hlt : ∀ t : Nat, t < G.length → rd G (t : Int) < l.length := fun t ht => by
        rcases L.pk t ht with ⟨h1, _⟩ | ⟨m, h1, h2, h3, _⟩ <;> omega
      have hsum : some_ G G.length = shF l fr 0 l.length := by
        rw [some_sum l G hlt G.length (Nat.le_refl _), L.len, sum_share L l.length (Nat.le_refl _), hsh]
      have b := some_le G G.length
      have hlen := L.len
      rw [if_neg (by omega), hh.1, Option.bind_some, Share_ev l L.rt L.four fr L.most _ (by omega) hh.2.2, Option.bind_some, if_pos rfl, if_neg (by dsimp only; omega)]
      dsimp only
      have := shares_l0 K hK G (by omega) _ hsum G.length 0 (by omega) (K + 300000) (by omega)
      rw [show (fr : Int) = (G.length : Int) by omega]
      rw [show (G.length : Int) = (fr : Int) by omega] at this ⊢
      exact this
    · have hh := h (K + 300000) (by omega)
      have hsh := shN_eq l fr l.length 0
      rw [Nat.zero_add, shN, Int.zero_add] at hsh
      have hgt : shF l fr 0 l.length > fr := by
        apply Classical.byContradiction
        intro c
        exact no_late L (by rw [← hsh]; omega) (by have := L.pos; have := L.le; omega)
      rw [if_neg (by omega), hh.1, Option.bind_some, Share_ev l L.rt L.four fr L.most _ (by omega) hh.2.2, Option.bind_some, if_pos rfl, if_pos (by dsimp only; exact hgt), if_pos rfl, if_pos (by simp), hK _ (by omega)]; rfl
    · have hh := h (K + 300000) (by omega)
      rw [if_neg (by omega), hh.1, Option.bind_some, Share_bad l e (by omega) _ hh.2.2, Option.bind_some, if_neg (by dsimp only; omega), if_pos rfl, if_pos (by simp), hK _ (by omega)]; rfl
end Go.Proofs.Ytkfkghnmbemdiaa.Pure
