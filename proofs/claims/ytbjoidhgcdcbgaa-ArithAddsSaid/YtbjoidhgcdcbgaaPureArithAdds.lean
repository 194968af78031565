/- The statement ArithAdds: the sum and the product of any two numbers are those that the document says, or the error is told. No condition. -/
import Derived.Test.YtbjoidhgcdcbgaaFArithLem
namespace Go.Proofs.Ytbjoidhgcdcbgaa.Pure
set_option linter.unusedSimpArgs false
set_option linter.unusedVariables false
open Go.RowKit Go.Proofs.Ytbjoidhgcdcbgaa.FArith Go.Proofs.YtbjoidhgcdcbgaaW.PrintWords Go.Proofs.YtbjoidhgcdcbgaaW.PrintLast Go.Proofs.Ytbjoidhgcdcbgaa.ArithLem

theorem ArithAdds : remontoirlaw01_ArithAdds.Pure := by
  intro a b _ _
  obtain ⟨K, hK⟩ := knows_ev
  refine ⟨K + 5, ?_⟩
  unfold remontoirlaw01_ArithAdds.f
  rw [add_ev a b _ (by omega), mul_ev a b _ (by omega), may_both, hK _ (by omega)]
  by_cases h : Ok a ∧ Ok b
  · rw [if_pos h, if_pos h, radd_ev a b h.1 h.2, rmul_ev a b h.1 h.2 _ (by omega), decide_eq_true h]
    by_cases h1 : Ok (a + b) <;> by_cases h2 : Ok (a * b) <;> simp [h1, h2, told_ok, told_no]
  · rw [if_neg h, if_neg h, decide_eq_false h]
    simp

end Go.Proofs.Ytbjoidhgcdcbgaa.Pure
