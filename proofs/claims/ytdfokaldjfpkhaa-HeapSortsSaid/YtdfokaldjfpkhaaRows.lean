/-
  No cell of these rows narrows 'for every input' (looked for: loops, veiled, ifaces, maps, wideKeys, modest, calm, conditions, laid).
  DERIVED. THE GIVEN ROWS OF THIS SEAT. 10 by the template 'for every input the law returns true; each argument reads behind the call as it read before'; 0 by the template 'total and deterministic' (their statements: YtdfokaldjfpkhaaTotals.lean).
  GIVEN WITH THE SEED: the statements are not yours to turn. If you find one false, say at which input.
  Laid BY PROGRAM, IN A SANDBOX (cutbox-rows.mjs): the forced cells as the released guide's own fill.sh prints them over the translation a5e512ea7e55ec9c… (all of the seat's roots in one cut). By AI agents, Wed Nov 11 2026. No macro, syntax, notation, axiom, sorry.
-/
import Derived.Test.YtdfokaldjfpkhaaChecked
import GoSem.Claim
import GoSem.ClaimJoined
import GoSem.ClaimMapViews
import Derived.JoinedTies
import Derived.KernelRfl
namespace Go.Proofs.Ytdfokaldjfpkhaa
/- THE CELL 'sum', in the pinned program and in every row, IS THE sha256 OF THE DUMP (.gsa) THAT YtdfokaldjfpkhaaProg.lean LOADS. Nothing in Lean hashes anything: it is a label: what it is worth is what the hold of that sum in a sandbox is worth. -/
noncomputable def Try.pinned : Pinned := { name := "ytdfokaldjfpkhaa", sum := "a5e512ea7e55ec9cb41a287e84fa52c9edcd485ce0a023f1db9cb2783270555c", checked := Try.checked }
namespace Rows
def none {H : Type} : Left H := { results := [], args := [] }

/-- 'remontoirlaw04.SpanNorms': WHATEVER THE INPUT: true; the input reads as it did. -/
def spanNormsSpec : ChangeSpec := { name := "spanNorms", fn := fun _ => fun
  | [d] => { results := [.lit (.bool true)], args := [d] }
  | _ => none }
def spanNormsRow : OpenClaim := { program := "ytdfokaldjfpkhaa", sum := "a5e512ea7e55ec9cb41a287e84fa52c9edcd485ce0a023f1db9cb2783270555c", func := "remontoir/remontoirlaw04.SpanNorms", spec := "spanNorms", unfollowed := true, recurses := true, apart := false }
def SpanNormsSaid : Prop := spanNormsRow.holds Try.pinned (OpenSpec.ofChange spanNormsSpec)

/-- ITS FALSE NEIGHBOUR: 'it returns false'. Refute it at one input. -/
def spanNormsWrong : ChangeSpec := { name := "spanNorms", fn := fun _ => fun
  | [d] => { results := [.lit (.bool false)], args := [d] }
  | _ => none }
def SpanNormsWrongFalsely : Prop := spanNormsRow.holds Try.pinned (OpenSpec.ofChange spanNormsWrong)

/-- 'remontoirlaw04.SpanTicks': WHATEVER THE INPUT: true; the input reads as it did. -/
def spanTicksSpec : ChangeSpec := { name := "spanTicks", fn := fun _ => fun
  | [d1, d2] => { results := [.lit (.bool true)], args := [d1, d2] }
  | _ => none }
def spanTicksRow : OpenClaim := { program := "ytdfokaldjfpkhaa", sum := "a5e512ea7e55ec9cb41a287e84fa52c9edcd485ce0a023f1db9cb2783270555c", func := "remontoir/remontoirlaw04.SpanTicks", spec := "spanTicks", unfollowed := true, recurses := true, apart := false }
def SpanTicksSaid : Prop := spanTicksRow.holds Try.pinned (OpenSpec.ofChange spanTicksSpec)

/-- ITS FALSE NEIGHBOUR: 'it returns false'. Refute it at one input. -/
def spanTicksWrong : ChangeSpec := { name := "spanTicks", fn := fun _ => fun
  | [d1, d2] => { results := [.lit (.bool false)], args := [d1, d2] }
  | _ => none }
def SpanTicksWrongFalsely : Prop := spanTicksRow.holds Try.pinned (OpenSpec.ofChange spanTicksWrong)

/-- 'remontoirlaw04.SpanTotals': WHATEVER THE INPUT: true; the input reads as it did. -/
def spanTotalsSpec : ChangeSpec := { name := "spanTotals", fn := fun _ => fun
  | [d1, d2] => { results := [.lit (.bool true)], args := [d1, d2] }
  | _ => none }
def spanTotalsRow : OpenClaim := { program := "ytdfokaldjfpkhaa", sum := "a5e512ea7e55ec9cb41a287e84fa52c9edcd485ce0a023f1db9cb2783270555c", func := "remontoir/remontoirlaw04.SpanTotals", spec := "spanTotals", unfollowed := true, recurses := true, apart := false }
def SpanTotalsSaid : Prop := spanTotalsRow.holds Try.pinned (OpenSpec.ofChange spanTotalsSpec)

/-- ITS FALSE NEIGHBOUR: 'it returns false'. Refute it at one input. -/
def spanTotalsWrong : ChangeSpec := { name := "spanTotals", fn := fun _ => fun
  | [d1, d2] => { results := [.lit (.bool false)], args := [d1, d2] }
  | _ => none }
def SpanTotalsWrongFalsely : Prop := spanTotalsRow.holds Try.pinned (OpenSpec.ofChange spanTotalsWrong)

/-- 'remontoirlaw02.HeapMakes': WHATEVER THE INPUT: true; the input reads as it did. -/
def heapMakesSpec : ChangeSpec := { name := "heapMakes", fn := fun _ => fun
  | [d1, d2] => { results := [.lit (.bool true)], args := [d1, d2] }
  | _ => none }
def heapMakesRow : OpenClaim := { program := "ytdfokaldjfpkhaa", sum := "a5e512ea7e55ec9cb41a287e84fa52c9edcd485ce0a023f1db9cb2783270555c", func := "remontoir/remontoirlaw02.HeapMakes", spec := "heapMakes", unfollowed := true, recurses := true, apart := false }
def HeapMakesSaid : Prop := heapMakesRow.holds Try.pinned (OpenSpec.ofChange heapMakesSpec)

/-- ITS FALSE NEIGHBOUR: 'it returns false'. Refute it at one input. -/
def heapMakesWrong : ChangeSpec := { name := "heapMakes", fn := fun _ => fun
  | [d1, d2] => { results := [.lit (.bool false)], args := [d1, d2] }
  | _ => none }
def HeapMakesWrongFalsely : Prop := heapMakesRow.holds Try.pinned (OpenSpec.ofChange heapMakesWrong)

/-- 'remontoirlaw02.HeapPops': WHATEVER THE INPUT: true; the input reads as it did. -/
def heapPopsSpec : ChangeSpec := { name := "heapPops", fn := fun _ => fun
  | [d] => { results := [.lit (.bool true)], args := [d] }
  | _ => none }
def heapPopsRow : OpenClaim := { program := "ytdfokaldjfpkhaa", sum := "a5e512ea7e55ec9cb41a287e84fa52c9edcd485ce0a023f1db9cb2783270555c", func := "remontoir/remontoirlaw02.HeapPops", spec := "heapPops", unfollowed := true, recurses := true, apart := false }
def HeapPopsSaid : Prop := heapPopsRow.holds Try.pinned (OpenSpec.ofChange heapPopsSpec)

/-- ITS FALSE NEIGHBOUR: 'it returns false'. Refute it at one input. -/
def heapPopsWrong : ChangeSpec := { name := "heapPops", fn := fun _ => fun
  | [d] => { results := [.lit (.bool false)], args := [d] }
  | _ => none }
def HeapPopsWrongFalsely : Prop := heapPopsRow.holds Try.pinned (OpenSpec.ofChange heapPopsWrong)

/-- 'remontoirlaw02.HeapRows': WHATEVER THE INPUT: true; the input reads as it did. -/
def heapRowsSpec : ChangeSpec := { name := "heapRows", fn := fun _ => fun
  | [d1, d2] => { results := [.lit (.bool true)], args := [d1, d2] }
  | _ => none }
def heapRowsRow : OpenClaim := { program := "ytdfokaldjfpkhaa", sum := "a5e512ea7e55ec9cb41a287e84fa52c9edcd485ce0a023f1db9cb2783270555c", func := "remontoir/remontoirlaw02.HeapRows", spec := "heapRows", unfollowed := true, recurses := true, apart := false }
def HeapRowsSaid : Prop := heapRowsRow.holds Try.pinned (OpenSpec.ofChange heapRowsSpec)

/-- ITS FALSE NEIGHBOUR: 'it returns false'. Refute it at one input. -/
def heapRowsWrong : ChangeSpec := { name := "heapRows", fn := fun _ => fun
  | [d1, d2] => { results := [.lit (.bool false)], args := [d1, d2] }
  | _ => none }
def HeapRowsWrongFalsely : Prop := heapRowsRow.holds Try.pinned (OpenSpec.ofChange heapRowsWrong)

/-- 'remontoirlaw04.SpanCuts': WHATEVER THE INPUT: true; the input reads as it did. -/
def spanCutsSpec : ChangeSpec := { name := "spanCuts", fn := fun _ => fun
  | [d1, d2, d3, d4, d5] => { results := [.lit (.bool true)], args := [d1, d2, d3, d4, d5] }
  | _ => none }
def spanCutsRow : OpenClaim := { program := "ytdfokaldjfpkhaa", sum := "a5e512ea7e55ec9cb41a287e84fa52c9edcd485ce0a023f1db9cb2783270555c", func := "remontoir/remontoirlaw04.SpanCuts", spec := "spanCuts", unfollowed := true, recurses := true, apart := false }
def SpanCutsSaid : Prop := spanCutsRow.holds Try.pinned (OpenSpec.ofChange spanCutsSpec)

/-- ITS FALSE NEIGHBOUR: 'it returns false'. Refute it at one input. -/
def spanCutsWrong : ChangeSpec := { name := "spanCuts", fn := fun _ => fun
  | [d1, d2, d3, d4, d5] => { results := [.lit (.bool false)], args := [d1, d2, d3, d4, d5] }
  | _ => none }
def SpanCutsWrongFalsely : Prop := spanCutsRow.holds Try.pinned (OpenSpec.ofChange spanCutsWrong)

/-- 'remontoirlaw04.SpanAgain': WHATEVER THE INPUT: true; the input reads as it did. -/
def spanAgainSpec : ChangeSpec := { name := "spanAgain", fn := fun _ => fun
  | [d1, d2] => { results := [.lit (.bool true)], args := [d1, d2] }
  | _ => none }
def spanAgainRow : OpenClaim := { program := "ytdfokaldjfpkhaa", sum := "a5e512ea7e55ec9cb41a287e84fa52c9edcd485ce0a023f1db9cb2783270555c", func := "remontoir/remontoirlaw04.SpanAgain", spec := "spanAgain", unfollowed := true, recurses := true, apart := false }
def SpanAgainSaid : Prop := spanAgainRow.holds Try.pinned (OpenSpec.ofChange spanAgainSpec)

/-- ITS FALSE NEIGHBOUR: 'it returns false'. Refute it at one input. -/
def spanAgainWrong : ChangeSpec := { name := "spanAgain", fn := fun _ => fun
  | [d1, d2] => { results := [.lit (.bool false)], args := [d1, d2] }
  | _ => none }
def SpanAgainWrongFalsely : Prop := spanAgainRow.holds Try.pinned (OpenSpec.ofChange spanAgainWrong)

/-- 'remontoirlaw02.HeapSorts': WHATEVER THE INPUT: true; the input reads as it did. -/
def heapSortsSpec : ChangeSpec := { name := "heapSorts", fn := fun _ => fun
  | [d] => { results := [.lit (.bool true)], args := [d] }
  | _ => none }
def heapSortsRow : OpenClaim := { program := "ytdfokaldjfpkhaa", sum := "a5e512ea7e55ec9cb41a287e84fa52c9edcd485ce0a023f1db9cb2783270555c", func := "remontoir/remontoirlaw02.HeapSorts", spec := "heapSorts", unfollowed := true, recurses := true, apart := false }
def HeapSortsSaid : Prop := heapSortsRow.holds Try.pinned (OpenSpec.ofChange heapSortsSpec)

/-- ITS FALSE NEIGHBOUR: 'it returns false'. Refute it at one input. -/
def heapSortsWrong : ChangeSpec := { name := "heapSorts", fn := fun _ => fun
  | [d] => { results := [.lit (.bool false)], args := [d] }
  | _ => none }
def HeapSortsWrongFalsely : Prop := heapSortsRow.holds Try.pinned (OpenSpec.ofChange heapSortsWrong)

/-- 'remontoirlaw02.HeapAgain': WHATEVER THE INPUT: true; the input reads as it did. -/
def heapAgainSpec : ChangeSpec := { name := "heapAgain", fn := fun _ => fun
  | [d1, d2] => { results := [.lit (.bool true)], args := [d1, d2] }
  | _ => none }
def heapAgainRow : OpenClaim := { program := "ytdfokaldjfpkhaa", sum := "a5e512ea7e55ec9cb41a287e84fa52c9edcd485ce0a023f1db9cb2783270555c", func := "remontoir/remontoirlaw02.HeapAgain", spec := "heapAgain", unfollowed := true, recurses := true, apart := false }
def HeapAgainSaid : Prop := heapAgainRow.holds Try.pinned (OpenSpec.ofChange heapAgainSpec)

/-- ITS FALSE NEIGHBOUR: 'it returns false'. Refute it at one input. -/
def heapAgainWrong : ChangeSpec := { name := "heapAgain", fn := fun _ => fun
  | [d1, d2] => { results := [.lit (.bool false)], args := [d1, d2] }
  | _ => none }
def HeapAgainWrongFalsely : Prop := heapAgainRow.holds Try.pinned (OpenSpec.ofChange heapAgainWrong)

/- THE SECOND FORM. 'bulk': how many values and letters a reading holds, each counted each time it is reached (what is shared counts as often as it is met; a slice's spare places count too). A statement '..UptoSaid' is the law's where the arguments, and the package variables that the reading takes, are together of bulk at most 1048576: NARROWER than '..Said'. Prove '..Said' where nothing that the law and all that it calls make is longer than what came in: it says more and counts as full. Else prove '..UptoSaid'. A law counts once. -/
mutual
def uptoBulk {H : Type} : DataW H → Nat
  | .lit (.string bytes) => bytes.length + 1
  | .lit _ => 1
  | .nil => 1
  | .ptr d => uptoBulk d + 1
  | .slice elems spare => uptoBulkAll elems + uptoBulkAll spare + 1
  | .agg parts => uptoBulkAll parts + 1
  | .iface _ d => uptoBulk d + 1
  | .map entries => uptoBulkEntries entries + 1
  | .held _ => 1
def uptoBulkAll {H : Type} : List (DataW H) → Nat
  | [] => 0
  | d :: r => uptoBulk d + uptoBulkAll r
def uptoBulkEntries {H : Type} : List (Lit × DataW H) → Nat
  | [] => 0
  | x :: r => uptoBulkEntry x + uptoBulkEntries r
def uptoBulkEntry {H : Type} : Lit × DataW H → Nat
  | (.string bytes, d) => bytes.length + uptoBulk d + 1
  | (_, d) => uptoBulk d + 1
 end
def uptoSmall : (H : Type) → List (DataW H) → Bool := fun _ ds => decide (uptoBulkAll ds ≤ 1048576)
def OpenSpec.upto (s : _root_.Go.ChangeSpec) : _root_.Go.OpenSpec := { _root_.Go.OpenSpec.ofChange s with cond := some uptoSmall }

/-- 'remontoirlaw04.SpanNorms', WHERE WHAT IT READS IS OF BULK AT MOST 1048576: true; the input reads as it did. -/
def spanNormsUptoRow : OpenClaim := { program := "ytdfokaldjfpkhaa", sum := "a5e512ea7e55ec9cb41a287e84fa52c9edcd485ce0a023f1db9cb2783270555c", func := "remontoir/remontoirlaw04.SpanNorms", spec := "spanNorms", unfollowed := true, recurses := true, apart := false, narrowed := true }
def SpanNormsUptoSaid : Prop := spanNormsUptoRow.holds Try.pinned (OpenSpec.upto spanNormsSpec)

/-- 'remontoirlaw04.SpanTicks', WHERE WHAT IT READS IS OF BULK AT MOST 1048576: true; the input reads as it did. -/
def spanTicksUptoRow : OpenClaim := { program := "ytdfokaldjfpkhaa", sum := "a5e512ea7e55ec9cb41a287e84fa52c9edcd485ce0a023f1db9cb2783270555c", func := "remontoir/remontoirlaw04.SpanTicks", spec := "spanTicks", unfollowed := true, recurses := true, apart := false, narrowed := true }
def SpanTicksUptoSaid : Prop := spanTicksUptoRow.holds Try.pinned (OpenSpec.upto spanTicksSpec)

/-- 'remontoirlaw04.SpanTotals', WHERE WHAT IT READS IS OF BULK AT MOST 1048576: true; the input reads as it did. -/
def spanTotalsUptoRow : OpenClaim := { program := "ytdfokaldjfpkhaa", sum := "a5e512ea7e55ec9cb41a287e84fa52c9edcd485ce0a023f1db9cb2783270555c", func := "remontoir/remontoirlaw04.SpanTotals", spec := "spanTotals", unfollowed := true, recurses := true, apart := false, narrowed := true }
def SpanTotalsUptoSaid : Prop := spanTotalsUptoRow.holds Try.pinned (OpenSpec.upto spanTotalsSpec)

/-- 'remontoirlaw02.HeapMakes', WHERE WHAT IT READS IS OF BULK AT MOST 1048576: true; the input reads as it did. -/
def heapMakesUptoRow : OpenClaim := { program := "ytdfokaldjfpkhaa", sum := "a5e512ea7e55ec9cb41a287e84fa52c9edcd485ce0a023f1db9cb2783270555c", func := "remontoir/remontoirlaw02.HeapMakes", spec := "heapMakes", unfollowed := true, recurses := true, apart := false, narrowed := true }
def HeapMakesUptoSaid : Prop := heapMakesUptoRow.holds Try.pinned (OpenSpec.upto heapMakesSpec)

/-- 'remontoirlaw02.HeapPops', WHERE WHAT IT READS IS OF BULK AT MOST 1048576: true; the input reads as it did. -/
def heapPopsUptoRow : OpenClaim := { program := "ytdfokaldjfpkhaa", sum := "a5e512ea7e55ec9cb41a287e84fa52c9edcd485ce0a023f1db9cb2783270555c", func := "remontoir/remontoirlaw02.HeapPops", spec := "heapPops", unfollowed := true, recurses := true, apart := false, narrowed := true }
def HeapPopsUptoSaid : Prop := heapPopsUptoRow.holds Try.pinned (OpenSpec.upto heapPopsSpec)

/-- 'remontoirlaw02.HeapRows', WHERE WHAT IT READS IS OF BULK AT MOST 1048576: true; the input reads as it did. -/
def heapRowsUptoRow : OpenClaim := { program := "ytdfokaldjfpkhaa", sum := "a5e512ea7e55ec9cb41a287e84fa52c9edcd485ce0a023f1db9cb2783270555c", func := "remontoir/remontoirlaw02.HeapRows", spec := "heapRows", unfollowed := true, recurses := true, apart := false, narrowed := true }
def HeapRowsUptoSaid : Prop := heapRowsUptoRow.holds Try.pinned (OpenSpec.upto heapRowsSpec)

/-- 'remontoirlaw04.SpanCuts', WHERE WHAT IT READS IS OF BULK AT MOST 1048576: true; the input reads as it did. -/
def spanCutsUptoRow : OpenClaim := { program := "ytdfokaldjfpkhaa", sum := "a5e512ea7e55ec9cb41a287e84fa52c9edcd485ce0a023f1db9cb2783270555c", func := "remontoir/remontoirlaw04.SpanCuts", spec := "spanCuts", unfollowed := true, recurses := true, apart := false, narrowed := true }
def SpanCutsUptoSaid : Prop := spanCutsUptoRow.holds Try.pinned (OpenSpec.upto spanCutsSpec)

/-- 'remontoirlaw04.SpanAgain', WHERE WHAT IT READS IS OF BULK AT MOST 1048576: true; the input reads as it did. -/
def spanAgainUptoRow : OpenClaim := { program := "ytdfokaldjfpkhaa", sum := "a5e512ea7e55ec9cb41a287e84fa52c9edcd485ce0a023f1db9cb2783270555c", func := "remontoir/remontoirlaw04.SpanAgain", spec := "spanAgain", unfollowed := true, recurses := true, apart := false, narrowed := true }
def SpanAgainUptoSaid : Prop := spanAgainUptoRow.holds Try.pinned (OpenSpec.upto spanAgainSpec)

/-- 'remontoirlaw02.HeapSorts', WHERE WHAT IT READS IS OF BULK AT MOST 1048576: true; the input reads as it did. -/
def heapSortsUptoRow : OpenClaim := { program := "ytdfokaldjfpkhaa", sum := "a5e512ea7e55ec9cb41a287e84fa52c9edcd485ce0a023f1db9cb2783270555c", func := "remontoir/remontoirlaw02.HeapSorts", spec := "heapSorts", unfollowed := true, recurses := true, apart := false, narrowed := true }
def HeapSortsUptoSaid : Prop := heapSortsUptoRow.holds Try.pinned (OpenSpec.upto heapSortsSpec)

/-- 'remontoirlaw02.HeapAgain', WHERE WHAT IT READS IS OF BULK AT MOST 1048576: true; the input reads as it did. -/
def heapAgainUptoRow : OpenClaim := { program := "ytdfokaldjfpkhaa", sum := "a5e512ea7e55ec9cb41a287e84fa52c9edcd485ce0a023f1db9cb2783270555c", func := "remontoir/remontoirlaw02.HeapAgain", spec := "heapAgain", unfollowed := true, recurses := true, apart := false, narrowed := true }
def HeapAgainUptoSaid : Prop := heapAgainUptoRow.holds Try.pinned (OpenSpec.upto heapAgainSpec)

end Rows
end Go.Proofs.Ytdfokaldjfpkhaa
