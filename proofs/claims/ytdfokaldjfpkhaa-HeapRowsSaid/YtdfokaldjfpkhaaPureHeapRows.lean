/- The statement HeapRows over plain data: true. No condition. -/
import Derived.Test.YtdfokaldjfpkhaaFHeapLem
import Derived.Test.YtdfokaldjfpkhaaFHeapx13
namespace Go.Proofs.Ytdfokaldjfpkhaa.Pure
open Go.RowKit Go.Proofs.Ytdfokaldjfpkhaa.FHeap Go.Proofs.Ytdfokaldjfpkhaa.HeapLem Go.Proofs.Ytdfokaldjfpkhaa.HeapMath Go.Proofs.YtdfokaldjfpkhaaW.PrintWords Go.Proofs.YtdfokaldjfpkhaaW.PrintLast
set_option linter.unusedSimpArgs false
set_option linter.unusedVariables false
theorem rows_ev (K : Nat) (hK : ∀ k, K ≤ k → remontoirlaw02_knows.f k = some true) (l : List S34) (ps : List Bool) : ∀ n (i : Nat) (h : List S34) (s : List S49), 61 ≤ i + n → i ≤ 60 → h.length ≤ i → s.Perm (cvs h) → s.Pairwise Le9 → ∀ k, K + 1002001 + 2 * n + 2 ≤ k → remontoirlaw02_HeapRows.l0 k l ps h s i = some true
  | 0, i, h, s, hn, hi, hh, p, so, k, hk => by omega
  | n + 1, i, h, s, hn, hi, hh, p, so, k, hk => by
    obtain ⟨k, rfl⟩ : ∃ k', k = k' + 2 := ⟨k - 2, by omega⟩
    have q := p.length_eq
    rw [cvs_len] at q
    have stop : remontoirlaw02_HeapRows.j1 (k + 1) l ps h s i false = some true := by
      rw [remontoirlaw02_HeapRows.j1, if_neg (by decide), hK _ (by omega)]; rfl
    rw [remontoirlaw02_HeapRows.l0]
    by_cases c1 : i < l.length
    · rw [if_pos (by omega)]
      by_cases c2 : i < ps.length
      · rw [if_pos (by omega)]
        by_cases c3 : i < 60
        · rw [decide_eq_true (by omega), remontoirlaw02_HeapRows.j1, if_pos rfl, if_pos (by omega), if_pos (by omega), w64 (n := (i : Int) + 1) (by omega) (by omega)]
          by_cases c4 : rdOf false ps i = true
          · rw [if_pos c4]
            by_cases h0 : h = []
            · subst h0
              obtain rfl : s = [] := by simpa [cvs] using p
              rw [Pop_nil, Option.bind_some, if_pos (by simp), if_pos (by simp)]
              exact rows_ev K hK l ps n (i + 1) [] [] (by omega) (by omega) (by simp) (by simp [cvs]) List.Pairwise.nil k (by omega)
            · obtain ⟨x, h', ex, oh, px, lx⟩ := Pop_ev h (by omega) h0
              have qx := px.length_eq
              simp at qx
              match s, p, so, q with
              | [], p, so, q => simp at q; omega
              | y :: s, p, so, q =>
                have so' := List.pairwise_cons.1 so
                have e : y = cv x := by
                  refine Le9.anti ?_ ?_
                  · have : cv x ∈ y :: s := p.mem_iff.2 (List.mem_map.2 ⟨x, px.mem_iff.1 (by simp), rfl⟩)
                    rcases List.mem_cons.1 this with e | e
                    · rw [e]; unfold Le9; omega
                    · exact so'.1 _ e
                  · have : y ∈ cvs h := p.mem_iff.1 (by simp)
                    obtain ⟨z, hz, rfl⟩ := List.mem_map.1 this
                    exact lx z hz
                subst e
                have p' : s.Perm (cvs h') := List.Perm.cons_inv (p.trans (cvs_perm px.symm))
                simp at q
                rw [ex _ (by omega), Option.bind_some, if_neg (by simp; omega), if_pos rfl, if_pos (by simp), if_pos (by simp [rd_T49, cv]), if_pos (by simp [rd_T49, cv])]
                dsimp only
                have ew : wrap64 (((cv x :: s).length : Int) - 1) = (s.length : Int) := by rw [List.length_cons, w64 (by omega) (by omega)]; omega
                rw [if_pos (by rw [ew]; omega), if_pos (by simp; omega)]
                exact rows_ev K hK l ps n (i + 1) h' s (by omega) (by omega) (by omega) p' so'.2 k (by omega)
          · rw [if_neg c4, if_pos (by omega)]
            obtain ⟨g, eg, og, pg⟩ := Push_ev h (At l i).f0 (At l i).f1 (by omega)
            have qg := pg.length_eq
            simp at qg
            have et : (l.take (((i : Int) + 1)).toNat).drop ((i : Int)).toNat = [At l i] := by
              rw [show (((i : Int) + 1)).toNat = i + 1 by omega, show ((i : Int)).toNat = i by omega, take_snoc l i c1, List.drop_append_of_le_length (by simp; omega), List.drop_of_length_le (by simp; omega)]; rfl
            obtain ⟨t, e1, st, pt⟩ := RSort_ev (s ++ [cv (At l i)]) (by simp; omega)
            have := eg k (by omega)
            rw [show heap_Push.f k h (rd_T34 l (i : Int)).f0 (rd_T34 l (i : Int)).f1 = some g from this, Option.bind_some, Option.bind_some, if_pos (by simp; omega), Option.bind_some, if_pos (by omega), if_pos (by omega), et, as_ev _ (by simp) _ (by simp; omega), Option.bind_some, if_pos (by simp [cvs_len]; omega)]
            rw [show ([] ++ s ++ cvs [At l i]) = s ++ [cv (At l i)] from rfl, e1 _ (by omega), Option.bind_some]
            refine rows_ev K hK l ps n (i + 1) g t (by omega) (by omega) (by omega) ?_ st k (by omega)
            refine pt.trans ((List.Perm.append_right _ p).trans ?_)
            have := (cvs_perm pg).symm
            simpa [cvs] using this
        · rw [decide_eq_false (by omega)]; exact stop
      · rw [if_neg (by omega)]; exact stop
    · rw [if_neg (by omega)]; exact stop
theorem HeapRows : remontoirlaw02_HeapRows.Pure := by
  intro l ps hl hp
  obtain ⟨K, hK⟩ := knows_ev
  exact ⟨K + 1002001 + 200, rows_ev K hK l ps 61 0 [] [] (by omega) (by simp) (by simp) (by simp [cvs]) List.Pairwise.nil _ (by omega)⟩
end Go.Proofs.Ytdfokaldjfpkhaa.Pure
