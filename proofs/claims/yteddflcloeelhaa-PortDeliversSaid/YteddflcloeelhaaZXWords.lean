/- Laws of the walk beside the print's words: a cut with a capacity. No condition. -/
import Derived.Test.YteddflcloeelhaaZWMore
namespace Go.Proofs.YteddflcloeelhaaW.PrintWords
open Go.RowKit
section
variable {α : Type} {P : Program}
end
theorem sbA {α : Type} (l : List α) (i : Nat) (a : α) : l.toArray.setIfInBounds i a = (l.set i a).toArray := by simp
theorem sbB {α : Type} (x : α) (l : List α) (a : α) : (x :: l).set 0 a = a :: l := rfl
theorem sbC {α : Type} (x : α) (l : List α) (i : Nat) (a : α) : (x :: l).set (i + 1) a = x :: l.set i a := rfl
end Go.Proofs.YteddflcloeelhaaW.PrintWords
