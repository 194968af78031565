/- What the functions of package arith come to: lemmas for the statements of layer 12. No condition. -/
import Derived.Test.YtkfkghnmbemdiaaTFSynthx0
import Derived.Test.YtkfkghnmbemdiaaTFSynthx2
import Derived.Test.YtkfkghnmbemdiaaTFSynthx3
import Derived.Test.YtkfkghnmbemdiaaTFSynthx4
import Derived.Test.YtkfkghnmbemdiaaTFSynthx5
import Derived.Test.YtkfkghnmbemdiaaTFSynthx6
import Derived.Test.YtkfkghnmbemdiaaTFSynthx7
import Derived.Test.YtkfkghnmbemdiaaTFSynthx8
import Derived.Test.YtkfkghnmbemdiaaTFSynthx9
import Derived.Test.YtkfkghnmbemdiaaTFSynthx10
namespace Go.Proofs.Ytkfkghnmbemdiaa.SynthArith
open Go.RowKit Go.Proofs.Ytkfkghnmbemdiaa.FSynth Go.Proofs.YtkfkghnmbemdiaaW.PrintWords Go.Proofs.YtkfkghnmbemdiaaW.PrintLast Go.Proofs.YtkfkghnmbemdiaaW.PrintMore
set_option linter.unusedSimpArgs false
set_option linter.unusedVariables false
theorem w64 {n : Int} (h1 : -9223372036854775808 ≤ n) (h2 : n ≤ 9223372036854775807) : wrap64 n = n := by unfold wrap64; omega
/-- May a number be? -/
def Ok (n : Int) : Prop := -4611686018427387903 ≤ n ∧ n ≤ 4611686018427387903
instance (n : Int) : Decidable (Ok n) := by unfold Ok; infer_instance
theorem may1 (a : Int) (k : Nat) (hk : 2 ≤ k) : arith_may.f k [a] = some (decide (Ok a)) := by
  obtain ⟨k, rfl⟩ : ∃ m, k = m + 2 := ⟨k - 2, by omega⟩
  simp [arith_may.f, arith_may.l0, rd, wrap64]
  by_cases h1 : 4611686018427387903 < a
  · rw [if_pos h1, decide_eq_false (by unfold Ok; omega)]
  · by_cases h2 : a < -4611686018427387903
    · rw [if_neg h1, if_pos h2, decide_eq_false (by unfold Ok; omega)]
    · rw [if_neg h1, if_neg h2, decide_eq_true (by unfold Ok; omega)]
theorem may2 (a b : Int) (k : Nat) (hk : 3 ≤ k) : arith_may.f k [a, b] = some (decide (Ok a ∧ Ok b)) := by
  obtain ⟨k, rfl⟩ : ∃ m, k = m + 3 := ⟨k - 3, by omega⟩
  simp [arith_may.f, arith_may.l0, rd, wrap64]
  by_cases h1 : 4611686018427387903 < a
  · rw [if_pos h1]; simp; unfold Ok; omega
  · by_cases h2 : a < -4611686018427387903
    · rw [if_neg h1, if_pos h2]; simp; unfold Ok; omega
    · rw [if_neg h1, if_neg h2]
      by_cases h3 : 4611686018427387903 < b
      · rw [if_pos h3]; simp; unfold Ok; omega
      · by_cases h4 : b < -4611686018427387903
        · rw [if_neg h3, if_pos h4]; simp; unfold Ok; omega
        · rw [if_neg h3, if_neg h4]; simp; unfold Ok; omega
/-- The greatest number that divides both. -/
def G (a b : Int) : Int := (Nat.gcd a.toNat b.toNat : Int)
theorem G_zero {a : Int} (h : 0 ≤ a) : G a 0 = a := by unfold G; simp; omega
theorem G_step {a b : Int} (ha : 0 ≤ a) (hb : 0 < b) : G b (a % b) = G a b := by
  unfold G
  have : (a % b).toNat = a.toNat % b.toNat := by
    have := Int.toNat_emod ha (show 0 ≤ b by omega)
    exact this
  rw [this]
  rw [Nat.gcd_comm a.toNat, Nat.gcd_rec b.toNat a.toNat, Nat.gcd_comm]
theorem gcd_l0 (n : Nat) : ∀ (a b : Int), 0 ≤ a → 0 ≤ b → b ≤ n → ∀ k, n + 1 ≤ k → arith_Gcd.l0 k a b = some (G a b, 0) := by
  induction n with
  | zero =>
    intro a b ha hb hn k hk
    obtain ⟨k, rfl⟩ : ∃ m, k = m + 1 := ⟨k - 1, by omega⟩
    have : b = 0 := by omega
    subst this
    simp only [arith_Gcd.l0]
    rw [if_neg (by omega), G_zero ha]
  | succ n ih =>
    intro a b ha hb hn k hk
    obtain ⟨k, rfl⟩ : ∃ m, k = m + 1 := ⟨k - 1, by omega⟩
    simp only [arith_Gcd.l0]
    by_cases h : b > 0
    · rw [if_pos h, if_neg (by omega), Int.tmod_eq_emod_of_nonneg ha]
      have h1 := Int.emod_nonneg a (show b ≠ 0 by omega)
      have h2 := Int.emod_lt_of_pos a h
      rw [ih b (a % b) (by omega) h1 (by omega) k (by omega), G_step ha h]
    · have : b = 0 := by omega
      subst this
      rw [if_neg (by omega), G_zero ha]
theorem gcd_ev (a b : Int) : ∀ k, b.toNat + 5 ≤ k → arith_Gcd.f k a b = if Ok a ∧ Ok b ∧ 0 ≤ a ∧ 0 ≤ b then some (G a b, 0) else some (0, 1) := by
  intro k hk
  unfold arith_Gcd.f
  rw [may2 a b k (by omega)]
  obtain ⟨k, rfl⟩ : ∃ m, k = m + 1 := ⟨k - 1, by omega⟩
  rw [Option.bind_some]
  by_cases h : Ok a ∧ Ok b
  · rw [if_pos (by simpa using h)]
    by_cases ha : a < 0
    · rw [if_pos ha, arith_Gcd.j0, if_pos rfl, if_neg (by omega)]
    · rw [if_neg ha, arith_Gcd.j0]
      by_cases hb : b < 0
      · rw [if_pos (by simpa using hb), if_neg (by omega)]
      · rw [if_neg (by simpa using hb), if_pos ⟨h.1, h.2, by omega, by omega⟩]
        exact gcd_l0 b.toNat a b (by omega) (by omega) (by omega) k (by omega)
  · rw [if_neg (by simpa using h), arith_Gcd.j0, if_pos rfl, if_neg (fun h' => h ⟨h'.1, h'.2.1⟩)]
theorem tdiv_bd (a b : Int) (ha : Ok a) : -4611686018427387903 ≤ Int.tdiv a b ∧ Int.tdiv a b ≤ 4611686018427387903 := by
  unfold Ok at ha
  have h := Int.natAbs_tdiv_le_natAbs a b
  omega
theorem mx_abs (a : Int) (h : Ok a) : mx a (wrap64 (-a)) = (a.natAbs : Int) := by
  unfold Ok at h
  rw [w64 (by omega) (by omega)]
  unfold mx
  split <;> omega
theorem mul_large {a b : Int} (hb : b ≠ 0) : (a.natAbs : Int) > 4611686018427387903 / (b.natAbs : Int) ↔ ¬ Ok (a * b) := by
  have h1 : (a * b).natAbs = a.natAbs * b.natAbs := Int.natAbs_mul a b
  have h2 : Ok (a * b) ↔ (a.natAbs : Int) * (b.natAbs : Int) ≤ 4611686018427387903 := by
    unfold Ok
    have : ((a * b).natAbs : Int) = (a.natAbs : Int) * (b.natAbs : Int) := by rw [h1]; exact Int.natCast_mul _ _
    omega
  rw [h2, ← Int.le_ediv_iff_mul_le (show 0 < (b.natAbs : Int) by omega)]
  omega
theorem mul_ev (a b : Int) (k : Nat) (hk : 3 ≤ k) : arith_Mul.f k a b = if Ok a ∧ Ok b then (if Ok (a * b) then some (a * b, 0) else some (0, 5)) else some (0, 1) := by
  unfold arith_Mul.f
  rw [may2 a b k (by omega), Option.bind_some]
  obtain ⟨k, rfl⟩ : ∃ m, k = m + 1 := ⟨k - 1, by omega⟩
  by_cases h : Ok a ∧ Ok b
  · rw [if_pos (by simpa using h), if_pos h]
    by_cases ha : a = 0
    · subst ha
      rw [if_pos rfl, arith_Mul.j0, if_pos rfl, Int.zero_mul, if_pos (by unfold Ok; omega)]
    · rw [if_neg ha, arith_Mul.j0]
      by_cases hb : b = 0
      · subst hb
        rw [if_pos (by simp), Int.mul_zero, if_pos (by unfold Ok; omega)]
      · rw [if_neg (by simpa using hb), mx_abs a h.1, mx_abs b h.2, if_neg (by omega)]
        have h3 := mul_large (a := a) hb
        have h4 : wrap64 ((4611686018427387903 : Int) / (b.natAbs : Int)) = (4611686018427387903 : Int) / (b.natAbs : Int) := by
          have h5 := Int.ediv_le_self (a := 4611686018427387903) (b.natAbs : Int) (by omega)
          have h6 := Int.ediv_nonneg (a := 4611686018427387903) (b := (b.natAbs : Int)) (by omega) (by omega)
          exact w64 (by omega) (by omega)
        rw [Int.tdiv_eq_ediv_of_nonneg (by omega), h4]
        by_cases hg : Ok (a * b)
        · rw [if_neg (fun h' => h3.1 h' hg), if_pos hg, w64 (by unfold Ok at hg; omega) (by unfold Ok at hg; omega)]
        · rw [if_pos (h3.2 hg), if_neg hg]
  · rw [if_neg (by simpa using h), if_neg h]
theorem G_pos {a b : Int} (ha : 1 ≤ a) : 1 ≤ G a b := by
  unfold G
  have : 0 < Nat.gcd a.toNat b.toNat := Nat.gcd_pos_of_pos_left _ (by omega)
  omega
theorem G_nonneg (a b : Int) : 0 ≤ G a b := by unfold G; omega
theorem G_dvd_left {a b : Int} (ha : 0 ≤ a) : G a b ∣ a := by
  unfold G
  have := Nat.gcd_dvd_left a.toNat b.toNat
  have h2 := Int.natCast_dvd_natCast.2 this
  rwa [Int.toNat_of_nonneg ha] at h2
theorem G_dvd_right {a b : Int} (hb : 0 ≤ b) : G a b ∣ b := by
  unfold G
  have := Nat.gcd_dvd_right a.toNat b.toNat
  have h2 := Int.natCast_dvd_natCast.2 this
  rwa [Int.toNat_of_nonneg hb] at h2
theorem G_le {a b : Int} (ha : 1 ≤ a) : G a b ≤ a := Int.le_of_dvd (by omega) (G_dvd_left (by omega))
/-- The least number that both divide. -/
def L (a b : Int) : Int := a / G a b * b
theorem lcm_ev (a b : Int) : ∀ k, b.toNat + 10 ≤ k → arith_Lcm.f k a b = if 1 ≤ a ∧ 1 ≤ b ∧ Ok a ∧ Ok b then (if Ok (L a b) then some (L a b, 0) else some (0, 5)) else some (0, 1) := by
  have hK := gcd_ev a b
  intro k hk
  unfold arith_Lcm.f
  obtain ⟨k, rfl⟩ : ∃ m, k = m + 1 := ⟨k - 1, by omega⟩
  have hbad : arith_Lcm.j0 (k + 1) a b true = some (0, 1) := by rw [arith_Lcm.j0, if_pos rfl]
  by_cases ha : a < 1
  · rw [if_pos ha, hbad, if_neg (by omega)]
  · rw [if_neg ha]
    by_cases hb : b < 1
    · rw [decide_eq_true hb, hbad, if_neg (by omega)]
    · rw [decide_eq_false hb, arith_Lcm.j0, if_neg (by simp), hK k (by omega)]
      by_cases h : Ok a ∧ Ok b
      · have hg := G_pos (a := a) (b := b) (by omega)
        have h1 := h.1
        unfold Ok at h1
        have h3 := Int.ediv_le_self (G a b) (show 0 ≤ a by omega)
        have h4 := Int.ediv_nonneg (show 0 ≤ a by omega) (show 0 ≤ G a b by omega)
        rw [if_pos ⟨h.1, h.2, by omega, by omega⟩, Option.bind_some, if_pos rfl, if_neg (show ¬ G a b = 0 by omega), Int.tdiv_eq_ediv_of_nonneg (by omega), w64 (n := a / G a b) (by omega) (by omega), mul_ev _ _ k (by omega), if_pos (show Ok (a / G a b) ∧ Ok b from ⟨by unfold Ok; omega, h.2⟩), if_pos (show 1 ≤ a ∧ 1 ≤ b ∧ Ok a ∧ Ok b from ⟨by omega, by omega, h.1, h.2⟩)]
        show (if Ok (L a b) then _ else _ : Option (Int × Int)).bind _ = _
        split <;> rfl
      · rw [if_neg (fun h' => h ⟨h'.1, h'.2.1⟩), if_neg (fun h' => h ⟨h'.2.2.1, h'.2.2.2⟩), Option.bind_some, if_neg (by simp)]
end Go.Proofs.Ytkfkghnmbemdiaa.SynthArith
