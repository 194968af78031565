/- The statement SupplyWorst: the pattern in which the first period's ticks are given at its beginning, all others' at their ends, is legal, and gives just the bound. No condition. -/
import Derived.Test.YtbjoidhgcdcbgaaFSupplyLem
namespace Go.Proofs.Ytbjoidhgcdcbgaa.Pure
open Go.RowKit Go.Proofs.Ytbjoidhgcdcbgaa.FSupply Go.Proofs.YtbjoidhgcdcbgaaW.PrintWords Go.Proofs.YtbjoidhgcdcbgaaW.PrintLast Go.Proofs.Ytbjoidhgcdcbgaa.SupplyMath Go.Proofs.Ytbjoidhgcdcbgaa.SupplyLem
set_option linter.unusedSimpArgs false
set_option linter.unusedVariables false

/-- The worst pattern's ticks. -/
def wf (P B : Int) (i : Nat) : Bool := SupplyMath.Worst P B i
theorem first_period {P B : Int} (h : Rt P B) (u : Nat) (hu : u ≤ P.toNat) : cnt (wf P B) u = if (u : Int) ≤ B then (u : Int) else B := by
  unfold Rt at h
  induction u with
  | zero => simp [cnt]; omega
  | succ u ih =>
    rw [cnt_succ, ih (by omega)]
    have : wf P B u = decide ((u : Int) < B) := by
      unfold wf SupplyMath.Worst
      rw [if_pos (by omega)]
    rw [this]
    simp only [decide_eq_true_eq]
    split <;> split <;> split <;> omega
theorem later_period {P B : Int} (h : Rt P B) (j : Nat) (hj : 1 ≤ j) (u : Nat) (hu : u ≤ P.toNat) : cnt (wf P B) (j * P.toNat + u) - cnt (wf P B) (j * P.toNat) = if (u : Int) - (P - B) < 0 then 0 else (u : Int) - (P - B) := by
  unfold Rt at h
  induction u with
  | zero => simp; omega
  | succ u ih =>
    rw [← Nat.add_assoc, cnt_succ]
    have ih' := ih (by omega)
    have hjp : 1 * P.toNat ≤ j * P.toNat := Nat.mul_le_mul_right _ hj
    have : wf P B (j * P.toNat + u) = decide ((u : Int) ≥ P - B) := by
      unfold wf SupplyMath.Worst
      rw [if_neg (by omega)]
      have e : (((j * P.toNat + u : Nat) : Int)) % P = u := by
        obtain ⟨p, rfl⟩ : ∃ p : Nat, P = p := ⟨P.toNat, by omega⟩
        rw [Int.toNat_natCast, ← Int.natCast_emod, Nat.mul_comm, Nat.mul_add_mod, Nat.mod_eq_of_lt (by omega)]
      rw [e]
    rw [this]
    simp only [decide_eq_true_eq]
    split <;> split at ih' <;> split <;> omega
theorem lg_worst {P B : Int} (h : Rt P B) : Lg P B (wf P B) := by
  have h' := h
  unfold Rt at h'
  intro j
  rw [Nat.add_mul, Nat.one_mul]
  by_cases hj : 1 ≤ j
  · rw [later_period h j hj P.toNat (Nat.le_refl _)]
    split <;> omega
  · obtain rfl : j = 0 := by omega
    rw [Nat.zero_mul, Nat.zero_add, first_period h P.toNat (Nat.le_refl _)]
    simp only [cnt]
    split <;> omega
/-- The pattern as a row. -/
def row (P B : Int) (n : Nat) : List Bool := (List.range n).map (wf P B)
theorem row_succ (P B : Int) (n : Nat) : row P B (n + 1) = row P B n ++ [SupplyMath.Worst P B n] := by
  unfold row
  rw [List.range_succ, List.map_append]
  rfl
theorem row_length (P B : Int) (n : Nat) : (row P B n).length = n := by simp [row]
theorem row_fl (P B : Int) (n x : Nat) (hx : x ≤ n) : cnt (fl (row P B n)) x = cnt (wf P B) x := by
  apply cnt_congr
  intro i hi
  unfold fl row
  rw [List.getD_eq_getElem?_getD, List.getElem?_map, List.getElem?_range (by omega)]
  rfl
theorem worst_l0 (P B t : Int) (h : Rt P B) (d : Nat) : ∀ (k n : Nat), (n : Int) + d = 3 * P + 300 →
    remontoirlaw09_SupplyWorst.l0 (k + d + 1) t (row P B n) (n : Int) P B = remontoirlaw09_SupplyWorst.l0 (k + 1) t (row P B (3 * P + 300).toNat) (3 * P + 300) P B := by
  have h' := h
  unfold Rt at h'
  induction d with
  | zero =>
    intro k n hn
    rw [show (3 * P + 300).toNat = n by omega, show 3 * P + 300 = (n : Int) by omega]
  | succ d ih =>
    intro k n hn
    rw [show k + (d + 1) + 1 = (k + d + 1) + 1 by omega, remontoirlaw09_SupplyWorst.l0, w64 (n := 3 * P) (by omega) (by omega), w64 (n := 3 * P + 300) (by omega) (by omega), if_pos (by omega), worst_ev P B n h (by omega), Option.bind_some, if_pos (by rw [row_length]; omega), w64 (by omega) (by omega), ← row_succ]
    exact ih k (n + 1) (by omega)
theorem SupplyWorst : remontoirlaw09_SupplyWorst.Pure := by
  intro P B t _ _ wt
  have ht := wf64 wt
  obtain ⟨K, hK⟩ := knows_ev
  refine ⟨K + 9000, ?_⟩
  unfold remontoirlaw09_SupplyWorst.f
  have hfar : remontoirlaw09_SupplyWorst.j0 (K + 9000) t true P B = some true := by
    rw [remontoirlaw09_SupplyWorst.j0, if_pos rfl, hK _ (by omega)]; rfl
  rw [rright_ev, Option.bind_some]
  by_cases h : Rt P B
  · rw [if_pos (by simpa using h)]
    by_cases h0 : t < 1
    · rw [if_pos h0]; exact hfar
    · rw [if_neg h0]
      by_cases h1 : t > 300
      · rw [decide_eq_true h1]; exact hfar
      · rw [decide_eq_false h1, remontoirlaw09_SupplyWorst.j0, if_neg (by simp)]
        have h' := h
        unfold Rt at h'
        obtain ⟨m, hm⟩ : ∃ m, K + 8999 = m + (3 * P + 300).toNat + 1 := ⟨K + 8999 - ((3 * P + 300).toNat + 1), by omega⟩
        have hloop := worst_l0 P B t h (3 * P + 300).toNat m 0 (by omega)
        rw [← hm] at hloop
        rw [show ([] : List Bool) = row P B 0 from rfl]
        refine Eq.trans hloop ?_
        have hlen := row_length P B (3 * P + 300).toNat
        have hle := least_ev (row P B (3 * P + 300).toNat) (by omega) t m (by omega)
        rw [if_pos (by omega)] at hle
        obtain ⟨r, hr, hmin⟩ := hle
        have hleg : LgTo P B (row P B (3 * P + 300).toNat) := by
          intro j hj
          rw [hlen] at hj
          have h2 : j * P.toNat ≤ (j + 1) * P.toNat := Nat.mul_le_mul_right _ (by omega)
          rw [row_fl _ _ _ _ hj, row_fl _ _ _ _ (by omega)]
          exact lg_worst h j
        have hrb : r = SB P B t := by
          obtain ⟨g1, a, ha, g2⟩ := hmin
          rw [hlen] at g1 ha
          have w1 := g1 B.toNat (by omega)
          unfold W at w1 g2
          rw [row_fl _ _ _ _ (by omega), row_fl _ _ _ _ (by omega)] at w1
          rw [row_fl _ _ _ _ (by omega), row_fl _ _ _ _ (by omega)] at g2
          have w2 := SB_count h t.toNat
          rw [show ((t.toNat : Nat) : Int) = t by omega] at w2
          have w3 := cnt_shift (wf P B) B.toNat t.toNat
          have w4 : cnt (fun i => wf P B (B.toNat + i)) t.toNat = cnt (fun i => SupplyMath.Worst P B (B + i)) t.toNat := by
            apply cnt_congr
            intro i _
            unfold wf
            rw [show ((B.toNat + i : Nat) : Int) = B + i by omega]
          have w5 := window h (lg_worst h) a t.toNat
          rw [show ((t.toNat : Nat) : Int) = t by omega] at w5
          omega
        rw [remontoirlaw09_SupplyWorst.l0, w64 (n := 3 * P) (by omega) (by omega), w64 (n := 3 * P + 300) (by omega) (by omega), if_neg (by omega), bound_ev _ _ _ _ (by omega), if_pos ⟨h, by omega, by omega⟩, Option.bind_some, if_pos rfl, legal_ev P B _ (by omega) _ (by omega), Option.bind_some, if_pos (by simpa using ⟨h, hleg⟩), hr, Option.bind_some, if_pos hrb, hK _ (by omega)]
        rfl
  · rw [if_neg (by simpa using h)]; exact hfar

end Go.Proofs.Ytbjoidhgcdcbgaa.Pure
