/- The statement ArithWhole: what divides both numbers divides them, and times what both divide it is the product. No condition. -/
import Derived.Test.YtbjoidhgcdcbgaaFArithLem
namespace Go.Proofs.Ytbjoidhgcdcbgaa.Pure
set_option linter.unusedSimpArgs false
set_option linter.unusedVariables false
open Go.RowKit Go.Proofs.Ytbjoidhgcdcbgaa.FArith Go.Proofs.YtbjoidhgcdcbgaaW.PrintWords Go.Proofs.YtbjoidhgcdcbgaaW.PrintLast Go.Proofs.Ytbjoidhgcdcbgaa.ArithLem

theorem ArithWhole : remontoirlaw01_ArithWhole.Pure := by
  intro a b _ _
  obtain ⟨K, hK⟩ := knows_ev
  obtain ⟨K1, h1⟩ := gcd_ev a b
  obtain ⟨K2, h2⟩ := lcm_ev a b
  refine ⟨K + K1 + K2 + 9, ?_⟩
  unfold remontoirlaw01_ArithWhole.f
  rw [h1 _ (by omega), h2 _ (by omega)]
  by_cases h : Ok a ∧ Ok b ∧ 0 ≤ a ∧ 0 ≤ b
  · rw [if_pos h]
    obtain ⟨ha, hb, a0, b0⟩ := h
    by_cases hg : G a b = 0
    · have hz : a = 0 ∧ b = 0 := by
        unfold G at hg
        have := Nat.eq_zero_of_gcd_eq_zero_left (show Nat.gcd a.toNat b.toNat = 0 by omega)
        have := Nat.eq_zero_of_gcd_eq_zero_right (show Nat.gcd a.toNat b.toNat = 0 by omega)
        omega
      obtain ⟨rfl, rfl⟩ := hz
      rw [if_neg (by omega), hg]
      repeat rw [Option.bind_some]
      rw [if_pos rfl, remontoirlaw01_ArithWhole.j0, if_pos rfl, if_neg (show ¬ ((0 : Int) = 1) by decide), if_pos rfl, if_pos rfl, if_pos rfl, hK _ (by omega)]
      rfl
    · have hg0 := G_nonneg a b
      have d1 := G_dvd_left (a := a) (b := b) a0
      have d2 := G_dvd_right (a := a) (b := b) b0
      have hfirst : ∀ l f, remontoirlaw01_ArithWhole.j1 (K + K1 + K2 + 8) a b (G a b) l f false = some true →
          ((some (G a b, 0) : Option (Int × Int)).bind fun bt130 => ((some (l, f) : Option (Int × Int)).bind fun bt132 => (if bt130.2 = 0 then (remontoirlaw01_ArithWhole.j0 (K + K1 + K2 + 9) a b bt130.1 bt130.2 bt132.1 bt132.2 (bt130.1 == 0)) else (remontoirlaw01_ArithWhole.j0 (K + K1 + K2 + 9) a b bt130.1 bt130.2 bt132.1 bt132.2 true)))) = some true := by
        intro l f hj
        repeat rw [Option.bind_some]
        have m1 : Int.tmod a (G a b) = 0 := Int.tmod_eq_zero_of_dvd d1
        have m2 : Int.tmod b (G a b) = 0 := Int.tmod_eq_zero_of_dvd d2
        rw [if_pos rfl, remontoirlaw01_ArithWhole.j0, if_neg (by simpa using hg), if_neg hg, if_pos m1, m2]
        exact hj
      by_cases hp : 1 ≤ a ∧ 1 ≤ b
      · rw [if_pos ⟨hp.1, hp.2, ha, hb⟩]
        by_cases hL : Ok (L a b)
        · rw [if_pos hL]
          apply hfirst
          have q1 : Int.tmod (L a b) a = 0 := by
            rw [← L_alt hp.1 hp.2]
            exact Int.tmod_eq_zero_of_dvd (Int.dvd_mul_right _ _)
          have q2 : Int.tmod (L a b) b = 0 := Int.tmod_eq_zero_of_dvd (Int.dvd_mul_left _ _)
          have q3 : Int.tdiv (L a b) a = b / G a b := by
            rw [← L_alt hp.1 hp.2]
            exact Int.mul_tdiv_cancel_left _ (by omega)
          have q4 : Int.tdiv b (G a b) = b / G a b := Int.tdiv_eq_ediv_of_nonneg b0
          rw [remontoirlaw01_ArithWhole.j1, if_neg (by simp), if_pos rfl, if_neg (by omega), if_pos q1, if_neg (by omega), if_pos q2, if_neg hg, if_pos (by rw [q3, q4]), hK _ (by omega)]
          rfl
        · rw [if_neg hL]
          apply hfirst
          rw [remontoirlaw01_ArithWhole.j1, if_neg (by simp), if_neg (by omega), if_pos rfl, hK _ (by omega)]
          rfl
      · rw [if_neg (fun h' => hp ⟨h'.1, h'.2.1⟩)]
        apply hfirst
        rw [remontoirlaw01_ArithWhole.j1, if_neg (by simp), if_neg (by omega), if_neg (by omega), if_pos rfl, hK _ (by omega)]
        rfl
  · rw [if_neg h, if_neg (fun h' => h ⟨h'.2.2.1, h'.2.2.2, by omega, by omega⟩)]
    repeat rw [Option.bind_some]
    rw [if_neg (by omega), remontoirlaw01_ArithWhole.j0, if_pos rfl, if_pos rfl, if_pos rfl, hK _ (by omega)]
    rfl

end Go.Proofs.Ytbjoidhgcdcbgaa.Pure
