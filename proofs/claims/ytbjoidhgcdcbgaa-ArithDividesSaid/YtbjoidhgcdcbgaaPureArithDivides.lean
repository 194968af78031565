/- The statement ArithDivides: the quotients of any two numbers, rounded down and up, are those that the document says, or the error is told. No condition. -/
import Derived.Test.YtbjoidhgcdcbgaaFArithLem
namespace Go.Proofs.Ytbjoidhgcdcbgaa.Pure
set_option linter.unusedSimpArgs false
set_option linter.unusedVariables false
open Go.RowKit Go.Proofs.Ytbjoidhgcdcbgaa.FArith Go.Proofs.YtbjoidhgcdcbgaaW.PrintWords Go.Proofs.YtbjoidhgcdcbgaaW.PrintLast Go.Proofs.Ytbjoidhgcdcbgaa.ArithLem

theorem rfloor_ev (a b : Int) (ha : Ok a) (hb : Ok b) (h1 : 1 ≤ b) : remontoirref01_Floor.f a b = some (a / b) := by
  unfold remontoirref01_Floor.f
  unfold Ok at ha hb
  have e1 := Int.mul_tdiv_add_tmod a b
  have e2 := Int.tmod_lt_of_pos a (show 0 < b by omega)
  have e3 : -b < Int.tmod a b := by
    have := Int.tmod_lt_of_pos (-a) (show 0 < b by omega)
    rw [Int.neg_tmod] at this
    omega
  have hf := floor_num a b h1
  have hbd := ediv_bd a b h1 (show Ok a from ha)
  rw [if_neg (by omega)]
  by_cases h : Int.tmod a b < 0
  · rw [if_pos h] at hf
    rw [if_pos h, w64 (n := Int.tmod a b + b) (by omega) (by omega), w64 (n := a - _) (by omega) (by omega)]
    have e4 : a - (Int.tmod a b + b) = b * (Int.tdiv a b - 1) := by rw [Int.mul_sub]; omega
    rw [e4, Int.mul_tdiv_cancel_left _ (by omega), hf, w64 (by omega) (by omega)]
  · rw [if_neg h] at hf
    rw [if_neg h, w64 (n := a - _) (by omega) (by omega)]
    have e4 : a - Int.tmod a b = b * Int.tdiv a b := by omega
    rw [e4, Int.mul_tdiv_cancel_left _ (by omega), hf, w64 (by omega) (by omega)]
theorem ArithDivides : remontoirlaw01_ArithDivides.Pure := by
  intro a b wa _
  have ha := wf64 wa
  obtain ⟨K, hK⟩ := knows_ev
  refine ⟨K + 5, ?_⟩
  unfold remontoirlaw01_ArithDivides.f
  rw [floor_ev a b _ (by omega), ceil_ev a b ha _ (by omega), may_both]
  by_cases h : Ok a ∧ Ok b
  · rw [decide_eq_true h]
    by_cases hb : 1 ≤ b
    · have h1 := h.1
      unfold Ok at h1
      rw [if_pos ⟨h.1, h.2, hb⟩, if_pos ⟨h.1, h.2, hb⟩, decide_eq_false (show ¬ b < 1 by omega)]
      have hbd := ediv_bd (-a) b hb (ok_neg.2 h.1)
      simp only [Option.bind_some, if_true]
      rw [remontoirlaw01_ArithDivides.j0, if_neg (by simp), rfloor_ev a b h.1 h.2 hb, Option.bind_some, if_pos rfl, if_pos rfl, w64 (n := -a) (by omega) (by omega), rfloor_ev (-a) b (ok_neg.2 h.1) h.2 hb, Option.bind_some, w64 (by omega) (by omega), if_pos rfl, if_pos rfl, hK _ (by omega)]
      rfl
    · rw [if_neg (fun h' => hb h'.2.2), if_neg (fun h' => hb h'.2.2), decide_eq_true (show b < 1 by omega)]
      simp only [Option.bind_some, if_true]
      rw [remontoirlaw01_ArithDivides.j0, if_pos rfl, hK _ (by omega)]
      simp
  · rw [if_neg (fun h' => h ⟨h'.1, h'.2.1⟩), if_neg (fun h' => h ⟨h'.1, h'.2.1⟩), decide_eq_false h]
    repeat rw [Option.bind_some]
    rw [if_neg (by simp), remontoirlaw01_ArithDivides.j0, if_pos rfl, hK _ (by omega)]
    simp

end Go.Proofs.Ytbjoidhgcdcbgaa.Pure
