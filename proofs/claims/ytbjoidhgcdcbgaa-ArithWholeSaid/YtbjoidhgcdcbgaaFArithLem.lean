/- What the functions of package arith, and of its reference, come to: lemmas for the statements of layer 1. No condition. -/
import Derived.Test.YtbjoidhgcdcbgaaFArithx
namespace Go.Proofs.Ytbjoidhgcdcbgaa.ArithLem
set_option linter.unusedSimpArgs false
set_option linter.unusedVariables false
open Go.RowKit Go.Proofs.Ytbjoidhgcdcbgaa.FArith Go.Proofs.YtbjoidhgcdcbgaaW.PrintWords Go.Proofs.YtbjoidhgcdcbgaaW.PrintLast

theorem w64 {n : Int} (h1 : -9223372036854775808 ≤ n) (h2 : n ≤ 9223372036854775807) : wrap64 n = n := by unfold wrap64; omega
theorem wf64 {a : Int} (h : (Lit.int .i64 a).wf = true) : -9223372036854775808 ≤ a ∧ a ≤ 9223372036854775807 := by
  simp [Lit.wf, IntKind.min, IntKind.max, IntKind.signed, IntKind.bits] at h
  omega

/-- May a number be? -/
def Ok (n : Int) : Prop := -4611686018427387903 ≤ n ∧ n ≤ 4611686018427387903
instance (n : Int) : Decidable (Ok n) := by unfold Ok; infer_instance

theorem may1 (a : Int) (k : Nat) (hk : 2 ≤ k) : arith_may.f k [a] = some (decide (Ok a)) := by
  obtain ⟨k, rfl⟩ : ∃ m, k = m + 2 := ⟨k - 2, by omega⟩
  simp [arith_may.f, arith_may.l0, rd, wrap64]
  by_cases h1 : 4611686018427387903 < a
  · rw [if_pos h1, decide_eq_false (by unfold Ok; omega)]
  · by_cases h2 : a < -4611686018427387903
    · rw [if_neg h1, if_pos h2, decide_eq_false (by unfold Ok; omega)]
    · rw [if_neg h1, if_neg h2, decide_eq_true (by unfold Ok; omega)]
theorem may2 (a b : Int) (k : Nat) (hk : 3 ≤ k) : arith_may.f k [a, b] = some (decide (Ok a ∧ Ok b)) := by
  obtain ⟨k, rfl⟩ : ∃ m, k = m + 3 := ⟨k - 3, by omega⟩
  simp [arith_may.f, arith_may.l0, rd, wrap64]
  by_cases h1 : 4611686018427387903 < a
  · rw [if_pos h1]; simp; unfold Ok; omega
  · by_cases h2 : a < -4611686018427387903
    · rw [if_neg h1, if_pos h2]; simp; unfold Ok; omega
    · rw [if_neg h1, if_neg h2]
      by_cases h3 : 4611686018427387903 < b
      · rw [if_pos h3]; simp; unfold Ok; omega
      · by_cases h4 : b < -4611686018427387903
        · rw [if_neg h3, if_pos h4]; simp; unfold Ok; omega
        · rw [if_neg h3, if_neg h4]; simp; unfold Ok; omega

theorem floor_num (a b : Int) (hb : 1 ≤ b) : (if Int.tmod a b < 0 then Int.tdiv a b - 1 else Int.tdiv a b) = a / b := by
  have h1 := Int.mul_tdiv_add_tmod a b
  have h2 := Int.tmod_lt_of_pos a (show 0 < b by omega)
  have h3 : -b < Int.tmod a b := by
    have := Int.tmod_lt_of_pos (-a) (show 0 < b by omega)
    rw [Int.neg_tmod] at this
    omega
  split
  · exact ((Int.ediv_emod_unique (r := Int.tmod a b + b) (show 0 < b by omega)).2 ⟨by rw [Int.mul_sub]; omega, by omega, by omega⟩).1.symm
  · exact ((Int.ediv_emod_unique (r := Int.tmod a b) (show 0 < b by omega)).2 ⟨by omega, by omega, by omega⟩).1.symm
theorem tdiv_bd (a b : Int) (ha : Ok a) : -4611686018427387903 ≤ Int.tdiv a b ∧ Int.tdiv a b ≤ 4611686018427387903 := by
  unfold Ok at ha
  have h := Int.natAbs_tdiv_le_natAbs a b
  omega
theorem ediv_bd (a b : Int) (hb : 1 ≤ b) (ha : Ok a) : -4611686018427387903 ≤ a / b ∧ a / b ≤ 4611686018427387903 := by
  unfold Ok at ha
  have h1 := Int.mul_ediv_add_emod a b
  have h2 := Int.emod_nonneg a (show b ≠ 0 by omega)
  have h3 := Int.emod_lt_of_pos a (show 0 < b by omega)
  constructor
  · apply Int.le_ediv_of_mul_le (by omega)
    have : (-4611686018427387903) * b ≤ -4611686018427387903 := by omega
    omega
  · by_cases h : 0 ≤ a
    · have := Int.ediv_le_self b h; omega
    · have := Int.ediv_neg_of_neg_of_pos (show a < 0 by omega) (show 0 < b by omega); omega

theorem floor_ev (a b : Int) (k : Nat) (hk : 3 ≤ k) : arith_Floor.f k a b = if Ok a ∧ Ok b ∧ 1 ≤ b then some (a / b, 0) else some (0, 1) := by
  unfold arith_Floor.f
  rw [may2 a b k hk]
  obtain ⟨k, rfl⟩ : ∃ m, k = m + 1 := ⟨k - 1, by omega⟩
  rw [Option.bind_some]
  by_cases h : Ok a ∧ Ok b
  · rw [if_pos (by simpa using h), arith_Floor.j0]
    by_cases hb : b < 1
    · rw [if_pos (by simpa using hb), if_neg (by omega)]
    · rw [if_neg (by simpa using hb), if_neg (show ¬ b = 0 by omega), if_pos (show Ok a ∧ Ok b ∧ 1 ≤ b from ⟨h.1, h.2, by omega⟩)]
      have h1 := floor_num a b (by omega)
      have h2 := tdiv_bd a b h.1
      rw [w64 (n := Int.tdiv a b) (by omega) (by omega)]
      split
      · rename_i hlt; rw [if_pos hlt] at h1; rw [w64 (by omega) (by omega), h1]
      · rename_i hlt; rw [if_neg hlt] at h1; rw [h1]
  · rw [if_neg (by simpa using h), arith_Floor.j0, if_pos rfl, if_neg (fun h' => h ⟨h'.1, h'.2.1⟩)]
theorem ok_neg {a : Int} : Ok (-a) ↔ Ok a := by unfold Ok; omega
theorem ceil_ev (a b : Int) (ha : -9223372036854775808 ≤ a ∧ a ≤ 9223372036854775807) (k : Nat) (hk : 3 ≤ k) : arith_Ceil.f k a b = if Ok a ∧ Ok b ∧ 1 ≤ b then some (-(-a / b), 0) else some (0, 1) := by
  unfold arith_Ceil.f
  rw [floor_ev _ _ k hk]
  by_cases h : Ok a ∧ Ok b ∧ 1 ≤ b
  · have h1 := h.1
    unfold Ok at h1
    rw [w64 (n := -a) (by omega) (by omega), if_pos h, if_pos ⟨ok_neg.2 h.1, h.2⟩]
    have := ediv_bd (-a) b h.2.2 (ok_neg.2 h.1)
    simp only [Option.bind_some]
    rw [w64 (by omega) (by omega)]
  · have h2 : ¬ (Ok (wrap64 (-a)) ∧ Ok b ∧ 1 ≤ b) := by
      intro h'
      apply h
      refine ⟨?_, h'.2⟩
      have h3 := h'.1
      unfold Ok wrap64 at h3
      unfold Ok
      omega
    rw [if_neg h, if_neg h2]
    simp [wrap64]

/-- The greatest number that divides both. -/
def G (a b : Int) : Int := (Nat.gcd a.toNat b.toNat : Int)
theorem G_zero {a : Int} (h : 0 ≤ a) : G a 0 = a := by unfold G; simp; omega
theorem G_step {a b : Int} (ha : 0 ≤ a) (hb : 0 < b) : G b (a % b) = G a b := by
  unfold G
  have : (a % b).toNat = a.toNat % b.toNat := by
    have := Int.toNat_emod ha (show 0 ≤ b by omega)
    exact this
  rw [this]
  rw [Nat.gcd_comm a.toNat, Nat.gcd_rec b.toNat a.toNat, Nat.gcd_comm]
theorem gcd_l0 (n : Nat) : ∀ (a b : Int), 0 ≤ a → 0 ≤ b → b ≤ n → ∀ k, n + 1 ≤ k → arith_Gcd.l0 k a b = some (G a b, 0) := by
  induction n with
  | zero =>
    intro a b ha hb hn k hk
    obtain ⟨k, rfl⟩ : ∃ m, k = m + 1 := ⟨k - 1, by omega⟩
    have : b = 0 := by omega
    subst this
    simp only [arith_Gcd.l0]
    rw [if_neg (by omega), G_zero ha]
  | succ n ih =>
    intro a b ha hb hn k hk
    obtain ⟨k, rfl⟩ : ∃ m, k = m + 1 := ⟨k - 1, by omega⟩
    simp only [arith_Gcd.l0]
    by_cases h : b > 0
    · rw [if_pos h, if_neg (by omega), Int.tmod_eq_emod_of_nonneg ha]
      have h1 := Int.emod_nonneg a (show b ≠ 0 by omega)
      have h2 := Int.emod_lt_of_pos a h
      rw [ih b (a % b) (by omega) h1 (by omega) k (by omega), G_step ha h]
    · have : b = 0 := by omega
      subst this
      rw [if_neg (by omega), G_zero ha]
theorem gcd_ev (a b : Int) : ∃ K, ∀ k, K ≤ k → arith_Gcd.f k a b = if Ok a ∧ Ok b ∧ 0 ≤ a ∧ 0 ≤ b then some (G a b, 0) else some (0, 1) := by
  refine ⟨b.toNat + 5, fun k hk => ?_⟩
  unfold arith_Gcd.f
  rw [may2 a b k (by omega)]
  obtain ⟨k, rfl⟩ : ∃ m, k = m + 1 := ⟨k - 1, by omega⟩
  rw [Option.bind_some]
  by_cases h : Ok a ∧ Ok b
  · rw [if_pos (by simpa using h)]
    by_cases ha : a < 0
    · rw [if_pos ha, arith_Gcd.j0, if_pos rfl, if_neg (by omega)]
    · rw [if_neg ha, arith_Gcd.j0]
      by_cases hb : b < 0
      · rw [if_pos (by simpa using hb), if_neg (by omega)]
      · rw [if_neg (by simpa using hb), if_pos ⟨h.1, h.2, by omega, by omega⟩]
        exact gcd_l0 b.toNat a b (by omega) (by omega) (by omega) k (by omega)
  · rw [if_neg (by simpa using h), arith_Gcd.j0, if_pos rfl, if_neg (fun h' => h ⟨h'.1, h'.2.1⟩)]
theorem rgcd_ev (n : Nat) : ∀ (a b : Int), 0 ≤ a → 0 ≤ b → b ≤ n → ∀ k, n + 1 ≤ k → remontoirref01_Gcd.f k a b = some (G a b) := by
  induction n with
  | zero =>
    intro a b ha hb hn k hk
    obtain ⟨k, rfl⟩ : ∃ m, k = m + 1 := ⟨k - 1, by omega⟩
    have : b = 0 := by omega
    subst this
    rw [remontoirref01_Gcd.f, if_pos rfl, G_zero ha]
  | succ n ih =>
    intro a b ha hb hn k hk
    obtain ⟨k, rfl⟩ : ∃ m, k = m + 1 := ⟨k - 1, by omega⟩
    rw [remontoirref01_Gcd.f]
    by_cases h : b > 0
    · rw [if_neg (by omega), Int.tmod_eq_emod_of_nonneg ha]
      have h1 := Int.emod_nonneg a (show b ≠ 0 by omega)
      have h2 := Int.emod_lt_of_pos a h
      rw [ih b (a % b) (by omega) h1 (by omega) k (by omega), G_step ha h]
      rfl
    · have : b = 0 := by omega
      subst this
      rw [if_pos rfl, G_zero ha]


theorem mx_abs (a : Int) (h : Ok a) : mx a (wrap64 (-a)) = (a.natAbs : Int) := by
  unfold Ok at h
  rw [w64 (by omega) (by omega)]
  unfold mx
  split <;> omega
theorem mul_large {a b : Int} (hb : b ≠ 0) : (a.natAbs : Int) > 4611686018427387903 / (b.natAbs : Int) ↔ ¬ Ok (a * b) := by
  have h1 : (a * b).natAbs = a.natAbs * b.natAbs := Int.natAbs_mul a b
  have h2 : Ok (a * b) ↔ (a.natAbs : Int) * (b.natAbs : Int) ≤ 4611686018427387903 := by
    unfold Ok
    have : ((a * b).natAbs : Int) = (a.natAbs : Int) * (b.natAbs : Int) := by rw [h1]; exact Int.natCast_mul _ _
    omega
  rw [h2, ← Int.le_ediv_iff_mul_le (show 0 < (b.natAbs : Int) by omega)]
  omega
theorem mul_ev (a b : Int) (k : Nat) (hk : 3 ≤ k) : arith_Mul.f k a b = if Ok a ∧ Ok b then (if Ok (a * b) then some (a * b, 0) else some (0, 5)) else some (0, 1) := by
  unfold arith_Mul.f
  rw [may2 a b k (by omega), Option.bind_some]
  obtain ⟨k, rfl⟩ : ∃ m, k = m + 1 := ⟨k - 1, by omega⟩
  by_cases h : Ok a ∧ Ok b
  · rw [if_pos (by simpa using h), if_pos h]
    by_cases ha : a = 0
    · subst ha
      rw [if_pos rfl, arith_Mul.j0, if_pos rfl, Int.zero_mul, if_pos (by unfold Ok; omega)]
    · rw [if_neg ha, arith_Mul.j0]
      by_cases hb : b = 0
      · subst hb
        rw [if_pos (by simp), Int.mul_zero, if_pos (by unfold Ok; omega)]
      · rw [if_neg (by simpa using hb), mx_abs a h.1, mx_abs b h.2, if_neg (by omega)]
        have h3 := mul_large (a := a) hb
        have h4 : wrap64 ((4611686018427387903 : Int) / (b.natAbs : Int)) = (4611686018427387903 : Int) / (b.natAbs : Int) := by
          have h5 := Int.ediv_le_self (a := 4611686018427387903) (b.natAbs : Int) (by omega)
          have h6 := Int.ediv_nonneg (a := 4611686018427387903) (b := (b.natAbs : Int)) (by omega) (by omega)
          exact w64 (by omega) (by omega)
        rw [Int.tdiv_eq_ediv_of_nonneg (by omega), h4]
        by_cases hg : Ok (a * b)
        · rw [if_neg (fun h' => h3.1 h' hg), if_pos hg, w64 (by unfold Ok at hg; omega) (by unfold Ok at hg; omega)]
        · rw [if_pos (h3.2 hg), if_neg hg]
  · rw [if_neg (by simpa using h), if_neg h]
theorem add_ev (a b : Int) (k : Nat) (hk : 3 ≤ k) : arith_Add.f k a b = if Ok a ∧ Ok b then (if Ok (a + b) then some (a + b, 0) else some (0, 5)) else some (0, 1) := by
  unfold arith_Add.f
  rw [may2 a b k (by omega), Option.bind_some]
  by_cases h : Ok a ∧ Ok b
  · have h1 := h.1
    have h2 := h.2
    unfold Ok at h1 h2
    rw [if_pos (by simpa using h), if_pos h, may1 _ k (by omega), Option.bind_some, w64 (n := a + b) (by omega) (by omega)]
    by_cases hg : Ok (a + b)
    · rw [if_pos (by simpa using hg), if_pos hg]
    · rw [if_neg (by simpa using hg), if_neg hg]
  · rw [if_neg (by simpa using h), if_neg h]
theorem may_ref (a : Int) : remontoirref01_May.f a = some (decide (Ok a)) := by
  unfold remontoirref01_May.f
  by_cases h : a ≥ -4611686018427387903
  · rw [if_pos h]; congr 1; apply Bool.eq_iff_iff.2; rw [decide_eq_true_iff, decide_eq_true_iff]; unfold Ok; omega
  · rw [if_neg h, decide_eq_false (by unfold Ok; omega)]
theorem may_both (a b : Int) : remontoirlaw01_may.f a b = some (decide (Ok a ∧ Ok b)) := by
  unfold remontoirlaw01_may.f
  rw [may_ref, may_ref, Option.bind_some, Option.bind_some]
  by_cases h : Ok a <;> simp [h]
theorem radd_ev (a b : Int) (ha : Ok a) (hb : Ok b) : remontoirref01_Add.f a b = if Ok (a + b) then some (a + b, true) else some (0, false) := by
  unfold remontoirref01_Add.f
  have h1 := ha
  have h2 := hb
  unfold Ok at h1 h2
  rw [w64 (n := a + b) (by omega) (by omega), may_ref, Option.bind_some]
  by_cases hg : Ok (a + b)
  · rw [if_pos (by simpa using hg), if_pos hg]
  · rw [if_neg (by simpa using hg), if_neg hg]
theorem halves_ev (a : Int) (h0 : 0 ≤ a) (h1 : Ok a) : remontoirref01_halves.f a = some (a / 2147483648, a % 2147483648) := by
  unfold remontoirref01_halves.f
  unfold Ok at h1
  rw [Int.tdiv_eq_ediv_of_nonneg h0, Int.tmod_eq_emod_of_nonneg h0, w64 (by omega) (by omega)]
/-- The product of two numbers from 0 on, by halves. -/
theorem halves_mul (a b : Int) : a * b = (a / 2147483648 * (b / 2147483648)) * 4611686018427387904 + (a / 2147483648 * (b % 2147483648) + a % 2147483648 * (b / 2147483648)) * 2147483648 + a % 2147483648 * (b % 2147483648) := by
  have h1 : a = 2147483648 * (a / 2147483648) + a % 2147483648 := by omega
  have h2 : b = 2147483648 * (b / 2147483648) + b % 2147483648 := by omega
  generalize a / 2147483648 = p at *
  generalize a % 2147483648 = q at *
  generalize b / 2147483648 = r at *
  generalize b % 2147483648 = s at *
  subst h1 h2
  grind
theorem rmul_core (a b : Int) (neg : Bool) (h0 : 0 ≤ a) (h1 : Ok a) (h2 : 0 ≤ b) (h3 : Ok b) (k : Nat) (hk : 2 ≤ k) :
    remontoirref01_Mul.j1 k a b neg = if Ok (a * b) then some (if neg = true then -(a * b) else a * b, true) else some (0, false) := by
  obtain ⟨k, rfl⟩ : ∃ m, k = m + 2 := ⟨k - 2, by omega⟩
  rw [remontoirref01_Mul.j1, halves_ev a h0 h1, halves_ev b h2 h3, Option.bind_some, Option.bind_some]
  have hm := halves_mul a b
  have ha1 : 0 ≤ a / 2147483648 ∧ a / 2147483648 ≤ 2147483647 := by unfold Ok at h1; omega
  have hb1 : 0 ≤ b / 2147483648 ∧ b / 2147483648 ≤ 2147483647 := by unfold Ok at h3; omega
  have ha2 : 0 ≤ a % 2147483648 ∧ a % 2147483648 ≤ 2147483647 := by omega
  have hb2 : 0 ≤ b % 2147483648 ∧ b % 2147483648 ≤ 2147483647 := by omega
  generalize a / 2147483648 = p at *
  generalize a % 2147483648 = q at *
  generalize b / 2147483648 = r at *
  generalize b % 2147483648 = s at *
  have m1 : 0 ≤ p * r := Int.mul_nonneg ha1.1 hb1.1
  have m2 : 0 ≤ p * s := Int.mul_nonneg ha1.1 hb2.1
  have m3 : 0 ≤ q * r := Int.mul_nonneg ha2.1 hb1.1
  have m4 : 0 ≤ q * s := Int.mul_nonneg ha2.1 hb2.1
  have n2 : p * s ≤ 2147483647 * 2147483647 := Int.mul_le_mul ha1.2 hb2.2 hb2.1 (by omega)
  have n3 : q * r ≤ 2147483647 * 2147483647 := Int.mul_le_mul ha2.2 hb1.2 hb1.1 (by omega)
  have n4 : q * s ≤ 2147483647 * 2147483647 := Int.mul_le_mul ha2.2 hb2.2 hb2.1 (by omega)
  have z1 : p ≤ 0 → p * r = 0 ∧ p * s = 0 := fun h => by
    have : p = 0 := by omega
    subst this
    simp
  have z2 : r ≤ 0 → p * r = 0 ∧ q * r = 0 := fun h => by
    have : r = 0 := by omega
    subst this
    simp
  have z3 : 0 < p → 0 < r → 1 ≤ p * r := fun h h' => Int.mul_pos h h'
  have hnot : ∀ x, remontoirref01_Mul.j2 (k + 1) neg q s x true = some (0, false) := fun x => by rw [remontoirref01_Mul.j2, if_pos rfl]
  have hrest : p * r = 0 → (remontoirref01_Mul.j2 (k + 1) neg q s (wrap64 ((wrap64 (p * s)) + (wrap64 (q * r)))) (decide ((wrap64 ((wrap64 (p * s)) + (wrap64 (q * r)))) > 2147483647))) = if Ok (a * b) then some (if neg = true then -(a * b) else a * b, true) else some (0, false) := by
    intro hz
    rw [hz] at hm
    rw [w64 (n := p * s) (by omega) (by omega), w64 (n := q * r) (by omega) (by omega), w64 (n := p * s + q * r) (by omega) (by omega), remontoirref01_Mul.j2]
    have hc0 : 0 ≤ p * s + q * r := by omega
    generalize p * s + q * r = c at *
    by_cases hc : c > 2147483647
    · rw [if_pos (by simpa using hc), if_neg (by unfold Ok; omega)]
    · rw [if_neg (by simpa using hc), w64 (n := q * s) (by omega) (by omega), w64 (n := c * 2147483648) (by omega) (by omega), w64 (n := 4611686018427387903 - c * 2147483648) (by omega) (by omega), w64 (n := q * s + c * 2147483648) (by omega) (by omega), w64 (n := -(q * s + c * 2147483648)) (by omega) (by omega)]
      by_cases hg : Ok (a * b)
      · have hg' := hg
        unfold Ok at hg'
        rw [if_neg (by omega), if_pos hg]
        have e : q * s + c * 2147483648 = a * b := by omega
        rw [e]
        cases neg <;> rfl
      · have hg' := hg
        unfold Ok at hg'
        rw [if_pos (by omega), if_neg hg]
  by_cases hp : p > 0
  · rw [if_pos hp]
    by_cases hr : r > 0
    · rw [if_pos hr, hnot, if_neg]
      have := z3 hp hr
      unfold Ok
      omega
    · rw [if_neg hr]
      exact hrest (z2 (by omega)).1
  · rw [if_neg hp]
    exact hrest (z1 (by omega)).1
theorem rmul_ev (a b : Int) (ha : Ok a) (hb : Ok b) (k : Nat) (hk : 3 ≤ k) : remontoirref01_Mul.f k a b = if Ok (a * b) then some (a * b, true) else some (0, false) := by
  obtain ⟨k, rfl⟩ : ∃ m, k = m + 1 := ⟨k - 1, by omega⟩
  unfold remontoirref01_Mul.f
  have ha' := ha
  have hb' := hb
  unfold Ok at ha' hb'
  have e : ∀ x : Int, Ok (-x) ↔ Ok x := fun x => ok_neg
  by_cases h1 : a < 0
  · rw [if_pos h1, w64 (by omega) (by omega), remontoirref01_Mul.j0]
    by_cases h2 : b < 0
    · rw [if_pos h2, w64 (by omega) (by omega), rmul_core _ _ _ (by omega) (ok_neg.2 ha) (by omega) (ok_neg.2 hb) k (by omega)]
      simp [Int.neg_mul, Int.mul_neg]
    · rw [if_neg h2, rmul_core _ _ _ (by omega) (ok_neg.2 ha) (by omega) hb k (by omega)]
      simp [e, Int.neg_mul, Int.mul_neg]
  · rw [if_neg h1, remontoirref01_Mul.j0]
    by_cases h2 : b < 0
    · rw [if_pos h2, w64 (by omega) (by omega), rmul_core _ _ _ (by omega) ha (by omega) (ok_neg.2 hb) k (by omega)]
      simp [e, Int.neg_mul, Int.mul_neg]
    · rw [if_neg h2, rmul_core _ _ _ (by omega) ha (by omega) hb k (by omega)]
      simp [Int.neg_mul, Int.mul_neg]
theorem G_pos {a b : Int} (ha : 1 ≤ a) : 1 ≤ G a b := by
  unfold G
  have : 0 < Nat.gcd a.toNat b.toNat := Nat.gcd_pos_of_pos_left _ (by omega)
  omega
theorem G_nonneg (a b : Int) : 0 ≤ G a b := by unfold G; omega
theorem G_dvd_left {a b : Int} (ha : 0 ≤ a) : G a b ∣ a := by
  unfold G
  have := Nat.gcd_dvd_left a.toNat b.toNat
  have h2 := Int.natCast_dvd_natCast.2 this
  rwa [Int.toNat_of_nonneg ha] at h2
theorem G_dvd_right {a b : Int} (hb : 0 ≤ b) : G a b ∣ b := by
  unfold G
  have := Nat.gcd_dvd_right a.toNat b.toNat
  have h2 := Int.natCast_dvd_natCast.2 this
  rwa [Int.toNat_of_nonneg hb] at h2
theorem G_le {a b : Int} (ha : 1 ≤ a) : G a b ≤ a := Int.le_of_dvd (by omega) (G_dvd_left (by omega))
/-- The least number that both divide. -/
def L (a b : Int) : Int := a / G a b * b
theorem L_alt {a b : Int} (ha : 1 ≤ a) (hb : 1 ≤ b) : a * (b / G a b) = L a b := by
  unfold L
  have hg := G_pos (b := b) ha
  obtain ⟨p, hp⟩ := G_dvd_left (a := a) (b := b) (by omega)
  obtain ⟨q, hq⟩ := G_dvd_right (a := a) (b := b) (by omega)
  generalize G a b = g at *
  subst hp hq
  rw [Int.mul_ediv_cancel_left _ (by omega), Int.mul_ediv_cancel_left _ (by omega)]
  grind
theorem lcm_ev (a b : Int) : ∃ K, ∀ k, K ≤ k → arith_Lcm.f k a b = if 1 ≤ a ∧ 1 ≤ b ∧ Ok a ∧ Ok b then (if Ok (L a b) then some (L a b, 0) else some (0, 5)) else some (0, 1) := by
  obtain ⟨K, hK⟩ := gcd_ev a b
  refine ⟨K + 5, fun k hk => ?_⟩
  unfold arith_Lcm.f
  obtain ⟨k, rfl⟩ : ∃ m, k = m + 1 := ⟨k - 1, by omega⟩
  have hbad : arith_Lcm.j0 (k + 1) a b true = some (0, 1) := by rw [arith_Lcm.j0, if_pos rfl]
  by_cases ha : a < 1
  · rw [if_pos ha, hbad, if_neg (by omega)]
  · rw [if_neg ha]
    by_cases hb : b < 1
    · rw [decide_eq_true hb, hbad, if_neg (by omega)]
    · rw [decide_eq_false hb, arith_Lcm.j0, if_neg (by simp), hK k (by omega)]
      by_cases h : Ok a ∧ Ok b
      · have hg := G_pos (a := a) (b := b) (by omega)
        have h1 := h.1
        unfold Ok at h1
        have h3 := Int.ediv_le_self (G a b) (show 0 ≤ a by omega)
        have h4 := Int.ediv_nonneg (show 0 ≤ a by omega) (show 0 ≤ G a b by omega)
        rw [if_pos ⟨h.1, h.2, by omega, by omega⟩, Option.bind_some, if_pos rfl, if_neg (show ¬ G a b = 0 by omega), Int.tdiv_eq_ediv_of_nonneg (by omega), w64 (n := a / G a b) (by omega) (by omega), mul_ev _ _ k (by omega), if_pos (show Ok (a / G a b) ∧ Ok b from ⟨by unfold Ok; omega, h.2⟩), if_pos (show 1 ≤ a ∧ 1 ≤ b ∧ Ok a ∧ Ok b from ⟨by omega, by omega, h.1, h.2⟩)]
        show (if Ok (L a b) then _ else _ : Option (Int × Int)).bind _ = _
        split <;> rfl
      · rw [if_neg (fun h' => h ⟨h'.1, h'.2.1⟩), if_neg (fun h' => h ⟨h'.2.2.1, h'.2.2.2⟩), Option.bind_some, if_neg (by simp)]
theorem rlcm_ev (a b : Int) (ha : 1 ≤ a) (hb : 1 ≤ b) (h1 : Ok a) (h2 : Ok b) : ∃ K, ∀ k, K ≤ k → remontoirref01_Lcm.f k a b = if Ok (L a b) then some (L a b, true) else some (0, false) := by
  refine ⟨b.toNat + 5, fun k hk => ?_⟩
  unfold remontoirref01_Lcm.f
  have hg := G_pos (a := a) (b := b) (by omega)
  have h3 := Int.ediv_le_self (G a b) (show 0 ≤ b by omega)
  have h4 := Int.ediv_nonneg (show 0 ≤ b by omega) (show 0 ≤ G a b by omega)
  have h5 := h2
  unfold Ok at h5
  rw [rgcd_ev b.toNat a b (by omega) (by omega) (by omega) k (by omega), Option.bind_some, if_neg (by omega), Int.tdiv_eq_ediv_of_nonneg (by omega), w64 (n := b / G a b) (by omega) (by omega), rmul_ev _ _ h1 (by unfold Ok; omega) k (by omega), L_alt ha hb]
  split <;> rfl
theorem told_ok (n e want : Int) : remontoirlaw01_told.f n e want true = some (decide (n = want ∧ e = 0)) := by
  unfold remontoirlaw01_told.f
  rw [if_pos rfl]
  by_cases h : n = want
  · rw [if_pos h]; congr 1; apply Bool.eq_iff_iff.2; simp [h]
  · rw [if_neg h, decide_eq_false (fun h' => h h'.1)]
theorem told_no (n e want : Int) : remontoirlaw01_told.f n e want false = some (decide (n = 0 ∧ e = 5)) := by
  unfold remontoirlaw01_told.f
  rw [if_neg (by simp)]
  by_cases h : n = 0
  · rw [if_pos h]; congr 1; apply Bool.eq_iff_iff.2; simp [h]
  · rw [if_neg h, decide_eq_false (fun h' => h h'.1)]
theorem knows_ev : ∃ K, ∀ k, K ≤ k → remontoirlaw01_knows.f k = some true := Ev.of (fun k => remontoirlaw01_knows.mono k) (k := 20) (by kernel_rfl)
end Go.Proofs.Ytbjoidhgcdcbgaa.ArithLem
