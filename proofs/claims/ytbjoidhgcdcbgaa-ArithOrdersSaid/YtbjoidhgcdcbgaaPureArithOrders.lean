/- The statement ArithOrders: sums and products are the same in both orders, and a quotient lies where it should. No condition. -/
import Derived.Test.YtbjoidhgcdcbgaaFArithLem
namespace Go.Proofs.Ytbjoidhgcdcbgaa.Pure
set_option linter.unusedSimpArgs false
set_option linter.unusedVariables false
open Go.RowKit Go.Proofs.Ytbjoidhgcdcbgaa.FArith Go.Proofs.YtbjoidhgcdcbgaaW.PrintWords Go.Proofs.YtbjoidhgcdcbgaaW.PrintLast Go.Proofs.Ytbjoidhgcdcbgaa.ArithLem

theorem mul_same (a b : Int) (k : Nat) (hk : 3 ≤ k) : arith_Mul.f k a b = arith_Mul.f k b a := by
  rw [mul_ev a b k hk, mul_ev b a k hk, Int.mul_comm b a]
  simp only [And.comm]
theorem add_same (a b : Int) (k : Nat) (hk : 3 ≤ k) : arith_Add.f k a b = arith_Add.f k b a := by
  rw [add_ev a b k hk, add_ev b a k hk, Int.add_comm b a]
  simp only [And.comm]
theorem ArithOrders : remontoirlaw01_ArithOrders.Pure := by
  intro a b wa _
  have ha := wf64 wa
  obtain ⟨K, hK⟩ := knows_ev
  refine ⟨K + 5, ?_⟩
  unfold remontoirlaw01_ArithOrders.f
  rw [add_same b a _ (by omega), mul_same b a _ (by omega)]
  obtain ⟨s, hs⟩ : ∃ s, arith_Add.f (K + 5) a b = some s := by rw [add_ev a b _ (by omega)]; split <;> (try split) <;> exact ⟨_, rfl⟩
  obtain ⟨p, hp⟩ : ∃ s, arith_Mul.f (K + 5) a b = some s := by rw [mul_ev a b _ (by omega)]; split <;> (try split) <;> exact ⟨_, rfl⟩
  rw [hs, hp]
  repeat rw [Option.bind_some]
  rw [if_pos rfl, if_pos rfl, if_pos rfl, remontoirlaw01_ArithOrders.j0, if_neg (by simp), floor_ev a b _ (by omega), ceil_ev a b ha _ (by omega)]
  by_cases h : Ok a ∧ Ok b ∧ 1 ≤ b
  · rw [if_pos h, if_pos h]
    repeat rw [Option.bind_some]
    rw [if_pos rfl, remontoirlaw01_ArithOrders.j1, if_neg (by simp)]
    obtain ⟨h1, h2, h3⟩ := h
    unfold Ok at h1 h2
    have e1 := Int.mul_ediv_add_emod a b
    have e2 := Int.emod_nonneg a (show b ≠ 0 by omega)
    have e3 := Int.emod_lt_of_pos a (show 0 < b by omega)
    have f1 := Int.mul_ediv_add_emod (-a) b
    have f2 := Int.emod_nonneg (-a) (show b ≠ 0 by omega)
    have f3 := Int.emod_lt_of_pos (-a) (show 0 < b by omega)
    have c1 : a / b * b = b * (a / b) := Int.mul_comm _ _
    have c2 : -(-a / b) * b = -(b * (-a / b)) := by rw [Int.neg_mul, Int.mul_comm]
    rw [c1, c2]
    generalize b * (a / b) = x at *
    generalize b * (-a / b) = y at *
    rw [w64 (n := x) (by omega) (by omega), w64 (n := -y) (by omega) (by omega), w64 (n := a - x) (by omega) (by omega), w64 (n := -y - a) (by omega) (by omega), if_pos (by omega), if_pos (by omega), if_pos (by omega), if_pos (by omega), hK _ (by omega)]
    rfl
  · rw [if_neg h, if_neg h]
    repeat rw [Option.bind_some]
    rw [if_neg (by simp), remontoirlaw01_ArithOrders.j1, if_pos rfl, if_pos rfl, hK _ (by omega)]
    rfl

end Go.Proofs.Ytbjoidhgcdcbgaa.Pure
