/-
  No cell of these rows narrows 'for every input' (looked for: loops, veiled, ifaces, maps, wideKeys, modest, calm, conditions, laid).
  DERIVED. THE GIVEN ROWS OF THIS SEAT. 9 by the template 'for every input the law returns true; each argument reads behind the call as it read before'; 0 by the template 'total and deterministic' (their statements: YteddflcloeelhaaTotals.lean).
  GIVEN WITH THE SEED: the statements are not yours to turn. If you find one false, say at which input.
  Laid BY PROGRAM, IN A SANDBOX (cutbox-rows.mjs): the forced cells as the released guide's own fill.sh prints them over the translation f9cde9f6907a79ac… (all of the seat's roots in one cut). By AI agents, Wed Nov 11 2026. No macro, syntax, notation, axiom, sorry.
-/
import Derived.Test.YteddflcloeelhaaChecked
import GoSem.Claim
import GoSem.ClaimJoined
import GoSem.ClaimMapViews
import Derived.JoinedTies
import Derived.KernelRfl
namespace Go.Proofs.Yteddflcloeelhaa
/- THE CELL 'sum', in the pinned program and in every row, IS THE sha256 OF THE DUMP (.gsa) THAT YteddflcloeelhaaProg.lean LOADS. Nothing in Lean hashes anything: it is a label: what it is worth is what the hold of that sum in a sandbox is worth. -/
noncomputable def Try.pinned : Pinned := { name := "yteddflcloeelhaa", sum := "f9cde9f6907a79acfb4569c9f194cd2be32256c3fdfdc5213b49effb4fcdddc0", checked := Try.checked }
namespace Rows
def none {H : Type} : Left H := { results := [], args := [] }

/-- 'remontoirlaw03.RingNews': WHATEVER THE INPUT: true; the input reads as it did. -/
def ringNewsSpec : ChangeSpec := { name := "ringNews", fn := fun _ => fun
  | [d1, d2] => { results := [.lit (.bool true)], args := [d1, d2] }
  | _ => none }
def ringNewsRow : OpenClaim := { program := "yteddflcloeelhaa", sum := "f9cde9f6907a79acfb4569c9f194cd2be32256c3fdfdc5213b49effb4fcdddc0", func := "remontoir/remontoirlaw03.RingNews", spec := "ringNews", apart := false }
def RingNewsSaid : Prop := ringNewsRow.holds Try.pinned (OpenSpec.ofChange ringNewsSpec)

/-- ITS FALSE NEIGHBOUR: 'it returns false'. Refute it at one input. -/
def ringNewsWrong : ChangeSpec := { name := "ringNews", fn := fun _ => fun
  | [d1, d2] => { results := [.lit (.bool false)], args := [d1, d2] }
  | _ => none }
def RingNewsWrongFalsely : Prop := ringNewsRow.holds Try.pinned (OpenSpec.ofChange ringNewsWrong)

/-- 'remontoirlaw03.RingPushes': WHATEVER THE INPUT: true; the input reads as it did. -/
def ringPushesSpec : ChangeSpec := { name := "ringPushes", fn := fun _ => fun
  | [d1, d2] => { results := [.lit (.bool true)], args := [d1, d2] }
  | _ => none }
def ringPushesRow : OpenClaim := { program := "yteddflcloeelhaa", sum := "f9cde9f6907a79acfb4569c9f194cd2be32256c3fdfdc5213b49effb4fcdddc0", func := "remontoir/remontoirlaw03.RingPushes", spec := "ringPushes", apart := false }
def RingPushesSaid : Prop := ringPushesRow.holds Try.pinned (OpenSpec.ofChange ringPushesSpec)

/-- ITS FALSE NEIGHBOUR: 'it returns false'. Refute it at one input. -/
def ringPushesWrong : ChangeSpec := { name := "ringPushes", fn := fun _ => fun
  | [d1, d2] => { results := [.lit (.bool false)], args := [d1, d2] }
  | _ => none }
def RingPushesWrongFalsely : Prop := ringPushesRow.holds Try.pinned (OpenSpec.ofChange ringPushesWrong)

/-- 'remontoirlaw03.RingPops': WHATEVER THE INPUT: true; the input reads as it did. -/
def ringPopsSpec : ChangeSpec := { name := "ringPops", fn := fun _ => fun
  | [d] => { results := [.lit (.bool true)], args := [d] }
  | _ => none }
def ringPopsRow : OpenClaim := { program := "yteddflcloeelhaa", sum := "f9cde9f6907a79acfb4569c9f194cd2be32256c3fdfdc5213b49effb4fcdddc0", func := "remontoir/remontoirlaw03.RingPops", spec := "ringPops", apart := false }
def RingPopsSaid : Prop := ringPopsRow.holds Try.pinned (OpenSpec.ofChange ringPopsSpec)

/-- ITS FALSE NEIGHBOUR: 'it returns false'. Refute it at one input. -/
def ringPopsWrong : ChangeSpec := { name := "ringPops", fn := fun _ => fun
  | [d] => { results := [.lit (.bool false)], args := [d] }
  | _ => none }
def RingPopsWrongFalsely : Prop := ringPopsRow.holds Try.pinned (OpenSpec.ofChange ringPopsWrong)

/-- 'remontoirlaw03.RingPuts': WHATEVER THE INPUT: true; the input reads as it did. -/
def ringPutsSpec : ChangeSpec := { name := "ringPuts", fn := fun _ => fun
  | [d1, d2] => { results := [.lit (.bool true)], args := [d1, d2] }
  | _ => none }
def ringPutsRow : OpenClaim := { program := "yteddflcloeelhaa", sum := "f9cde9f6907a79acfb4569c9f194cd2be32256c3fdfdc5213b49effb4fcdddc0", func := "remontoir/remontoirlaw03.RingPuts", spec := "ringPuts", apart := false }
def RingPutsSaid : Prop := ringPutsRow.holds Try.pinned (OpenSpec.ofChange ringPutsSpec)

/-- ITS FALSE NEIGHBOUR: 'it returns false'. Refute it at one input. -/
def ringPutsWrong : ChangeSpec := { name := "ringPuts", fn := fun _ => fun
  | [d1, d2] => { results := [.lit (.bool false)], args := [d1, d2] }
  | _ => none }
def RingPutsWrongFalsely : Prop := ringPutsRow.holds Try.pinned (OpenSpec.ofChange ringPutsWrong)

/-- 'remontoirlaw03.RingRows': WHATEVER THE INPUT: true; the input reads as it did. -/
def ringRowsSpec : ChangeSpec := { name := "ringRows", fn := fun _ => fun
  | [d1, d2, d3] => { results := [.lit (.bool true)], args := [d1, d2, d3] }
  | _ => none }
def ringRowsRow : OpenClaim := { program := "yteddflcloeelhaa", sum := "f9cde9f6907a79acfb4569c9f194cd2be32256c3fdfdc5213b49effb4fcdddc0", func := "remontoir/remontoirlaw03.RingRows", spec := "ringRows", apart := false }
def RingRowsSaid : Prop := ringRowsRow.holds Try.pinned (OpenSpec.ofChange ringRowsSpec)

/-- ITS FALSE NEIGHBOUR: 'it returns false'. Refute it at one input. -/
def ringRowsWrong : ChangeSpec := { name := "ringRows", fn := fun _ => fun
  | [d1, d2, d3] => { results := [.lit (.bool false)], args := [d1, d2, d3] }
  | _ => none }
def RingRowsWrongFalsely : Prop := ringRowsRow.holds Try.pinned (OpenSpec.ofChange ringRowsWrong)

/-- 'remontoirlaw18.PortAlone': WHATEVER THE INPUT: true; the input reads as it did. -/
def portAloneSpec : ChangeSpec := { name := "portAlone", fn := fun _ => fun
  | [d1, d2] => { results := [.lit (.bool true)], args := [d1, d2] }
  | _ => none }
def portAloneRow : OpenClaim := { program := "yteddflcloeelhaa", sum := "f9cde9f6907a79acfb4569c9f194cd2be32256c3fdfdc5213b49effb4fcdddc0", func := "remontoir/remontoirlaw18.PortAlone", spec := "portAlone", unfollowed := true, recurses := true, apart := false }
def PortAloneSaid : Prop := portAloneRow.holds Try.pinned (OpenSpec.ofChange portAloneSpec)

/-- ITS FALSE NEIGHBOUR: 'it returns false'. Refute it at one input. -/
def portAloneWrong : ChangeSpec := { name := "portAlone", fn := fun _ => fun
  | [d1, d2] => { results := [.lit (.bool false)], args := [d1, d2] }
  | _ => none }
def PortAloneWrongFalsely : Prop := portAloneRow.holds Try.pinned (OpenSpec.ofChange portAloneWrong)

/-- 'remontoirlaw18.PortSends': WHATEVER THE INPUT: true; the input reads as it did. -/
def portSendsSpec : ChangeSpec := { name := "portSends", fn := fun _ => fun
  | [d1, d2, d3, d4] => { results := [.lit (.bool true)], args := [d1, d2, d3, d4] }
  | _ => none }
def portSendsRow : OpenClaim := { program := "yteddflcloeelhaa", sum := "f9cde9f6907a79acfb4569c9f194cd2be32256c3fdfdc5213b49effb4fcdddc0", func := "remontoir/remontoirlaw18.PortSends", spec := "portSends", unfollowed := true, recurses := true, apart := false }
def PortSendsSaid : Prop := portSendsRow.holds Try.pinned (OpenSpec.ofChange portSendsSpec)

/-- ITS FALSE NEIGHBOUR: 'it returns false'. Refute it at one input. -/
def portSendsWrong : ChangeSpec := { name := "portSends", fn := fun _ => fun
  | [d1, d2, d3, d4] => { results := [.lit (.bool false)], args := [d1, d2, d3, d4] }
  | _ => none }
def PortSendsWrongFalsely : Prop := portSendsRow.holds Try.pinned (OpenSpec.ofChange portSendsWrong)

/-- 'remontoirlaw18.PortDelivers': WHATEVER THE INPUT: true; the input reads as it did. -/
def portDeliversSpec : ChangeSpec := { name := "portDelivers", fn := fun _ => fun
  | [d] => { results := [.lit (.bool true)], args := [d] }
  | _ => none }
def portDeliversRow : OpenClaim := { program := "yteddflcloeelhaa", sum := "f9cde9f6907a79acfb4569c9f194cd2be32256c3fdfdc5213b49effb4fcdddc0", func := "remontoir/remontoirlaw18.PortDelivers", spec := "portDelivers", unfollowed := true, recurses := true, apart := false }
def PortDeliversSaid : Prop := portDeliversRow.holds Try.pinned (OpenSpec.ofChange portDeliversSpec)

/-- ITS FALSE NEIGHBOUR: 'it returns false'. Refute it at one input. -/
def portDeliversWrong : ChangeSpec := { name := "portDelivers", fn := fun _ => fun
  | [d] => { results := [.lit (.bool false)], args := [d] }
  | _ => none }
def PortDeliversWrongFalsely : Prop := portDeliversRow.holds Try.pinned (OpenSpec.ofChange portDeliversWrong)

/-- 'remontoirlaw18.PortOrders': WHATEVER THE INPUT: true; the input reads as it did. -/
def portOrdersSpec : ChangeSpec := { name := "portOrders", fn := fun _ => fun
  | [d1, d2] => { results := [.lit (.bool true)], args := [d1, d2] }
  | _ => none }
def portOrdersRow : OpenClaim := { program := "yteddflcloeelhaa", sum := "f9cde9f6907a79acfb4569c9f194cd2be32256c3fdfdc5213b49effb4fcdddc0", func := "remontoir/remontoirlaw18.PortOrders", spec := "portOrders", unfollowed := true, recurses := true, apart := false }
def PortOrdersSaid : Prop := portOrdersRow.holds Try.pinned (OpenSpec.ofChange portOrdersSpec)

/-- ITS FALSE NEIGHBOUR: 'it returns false'. Refute it at one input. -/
def portOrdersWrong : ChangeSpec := { name := "portOrders", fn := fun _ => fun
  | [d1, d2] => { results := [.lit (.bool false)], args := [d1, d2] }
  | _ => none }
def PortOrdersWrongFalsely : Prop := portOrdersRow.holds Try.pinned (OpenSpec.ofChange portOrdersWrong)

/- THE SECOND FORM. 'bulk': how many values and letters a reading holds, each counted each time it is reached (what is shared counts as often as it is met; a slice's spare places count too). A statement '..UptoSaid' is the law's where the arguments, and the package variables that the reading takes, are together of bulk at most 1048576: NARROWER than '..Said'. Prove '..Said' where nothing that the law and all that it calls make is longer than what came in: it says more and counts as full. Else prove '..UptoSaid'. A law counts once. -/
mutual
def uptoBulk {H : Type} : DataW H → Nat
  | .lit (.string bytes) => bytes.length + 1
  | .lit _ => 1
  | .nil => 1
  | .ptr d => uptoBulk d + 1
  | .slice elems spare => uptoBulkAll elems + uptoBulkAll spare + 1
  | .agg parts => uptoBulkAll parts + 1
  | .iface _ d => uptoBulk d + 1
  | .map entries => uptoBulkEntries entries + 1
  | .held _ => 1
def uptoBulkAll {H : Type} : List (DataW H) → Nat
  | [] => 0
  | d :: r => uptoBulk d + uptoBulkAll r
def uptoBulkEntries {H : Type} : List (Lit × DataW H) → Nat
  | [] => 0
  | x :: r => uptoBulkEntry x + uptoBulkEntries r
def uptoBulkEntry {H : Type} : Lit × DataW H → Nat
  | (.string bytes, d) => bytes.length + uptoBulk d + 1
  | (_, d) => uptoBulk d + 1
 end
def uptoSmall : (H : Type) → List (DataW H) → Bool := fun _ ds => decide (uptoBulkAll ds ≤ 1048576)
def OpenSpec.upto (s : _root_.Go.ChangeSpec) : _root_.Go.OpenSpec := { _root_.Go.OpenSpec.ofChange s with cond := some uptoSmall }

/-- 'remontoirlaw03.RingNews', WHERE WHAT IT READS IS OF BULK AT MOST 1048576: true; the input reads as it did. -/
def ringNewsUptoRow : OpenClaim := { program := "yteddflcloeelhaa", sum := "f9cde9f6907a79acfb4569c9f194cd2be32256c3fdfdc5213b49effb4fcdddc0", func := "remontoir/remontoirlaw03.RingNews", spec := "ringNews", apart := false, narrowed := true }
def RingNewsUptoSaid : Prop := ringNewsUptoRow.holds Try.pinned (OpenSpec.upto ringNewsSpec)

/-- 'remontoirlaw03.RingPushes', WHERE WHAT IT READS IS OF BULK AT MOST 1048576: true; the input reads as it did. -/
def ringPushesUptoRow : OpenClaim := { program := "yteddflcloeelhaa", sum := "f9cde9f6907a79acfb4569c9f194cd2be32256c3fdfdc5213b49effb4fcdddc0", func := "remontoir/remontoirlaw03.RingPushes", spec := "ringPushes", apart := false, narrowed := true }
def RingPushesUptoSaid : Prop := ringPushesUptoRow.holds Try.pinned (OpenSpec.upto ringPushesSpec)

/-- 'remontoirlaw03.RingPops', WHERE WHAT IT READS IS OF BULK AT MOST 1048576: true; the input reads as it did. -/
def ringPopsUptoRow : OpenClaim := { program := "yteddflcloeelhaa", sum := "f9cde9f6907a79acfb4569c9f194cd2be32256c3fdfdc5213b49effb4fcdddc0", func := "remontoir/remontoirlaw03.RingPops", spec := "ringPops", apart := false, narrowed := true }
def RingPopsUptoSaid : Prop := ringPopsUptoRow.holds Try.pinned (OpenSpec.upto ringPopsSpec)

/-- 'remontoirlaw03.RingPuts', WHERE WHAT IT READS IS OF BULK AT MOST 1048576: true; the input reads as it did. -/
def ringPutsUptoRow : OpenClaim := { program := "yteddflcloeelhaa", sum := "f9cde9f6907a79acfb4569c9f194cd2be32256c3fdfdc5213b49effb4fcdddc0", func := "remontoir/remontoirlaw03.RingPuts", spec := "ringPuts", apart := false, narrowed := true }
def RingPutsUptoSaid : Prop := ringPutsUptoRow.holds Try.pinned (OpenSpec.upto ringPutsSpec)

/-- 'remontoirlaw03.RingRows', WHERE WHAT IT READS IS OF BULK AT MOST 1048576: true; the input reads as it did. -/
def ringRowsUptoRow : OpenClaim := { program := "yteddflcloeelhaa", sum := "f9cde9f6907a79acfb4569c9f194cd2be32256c3fdfdc5213b49effb4fcdddc0", func := "remontoir/remontoirlaw03.RingRows", spec := "ringRows", apart := false, narrowed := true }
def RingRowsUptoSaid : Prop := ringRowsUptoRow.holds Try.pinned (OpenSpec.upto ringRowsSpec)

/-- 'remontoirlaw18.PortAlone', WHERE WHAT IT READS IS OF BULK AT MOST 1048576: true; the input reads as it did. -/
def portAloneUptoRow : OpenClaim := { program := "yteddflcloeelhaa", sum := "f9cde9f6907a79acfb4569c9f194cd2be32256c3fdfdc5213b49effb4fcdddc0", func := "remontoir/remontoirlaw18.PortAlone", spec := "portAlone", unfollowed := true, recurses := true, apart := false, narrowed := true }
def PortAloneUptoSaid : Prop := portAloneUptoRow.holds Try.pinned (OpenSpec.upto portAloneSpec)

/-- 'remontoirlaw18.PortSends', WHERE WHAT IT READS IS OF BULK AT MOST 1048576: true; the input reads as it did. -/
def portSendsUptoRow : OpenClaim := { program := "yteddflcloeelhaa", sum := "f9cde9f6907a79acfb4569c9f194cd2be32256c3fdfdc5213b49effb4fcdddc0", func := "remontoir/remontoirlaw18.PortSends", spec := "portSends", unfollowed := true, recurses := true, apart := false, narrowed := true }
def PortSendsUptoSaid : Prop := portSendsUptoRow.holds Try.pinned (OpenSpec.upto portSendsSpec)

/-- 'remontoirlaw18.PortDelivers', WHERE WHAT IT READS IS OF BULK AT MOST 1048576: true; the input reads as it did. -/
def portDeliversUptoRow : OpenClaim := { program := "yteddflcloeelhaa", sum := "f9cde9f6907a79acfb4569c9f194cd2be32256c3fdfdc5213b49effb4fcdddc0", func := "remontoir/remontoirlaw18.PortDelivers", spec := "portDelivers", unfollowed := true, recurses := true, apart := false, narrowed := true }
def PortDeliversUptoSaid : Prop := portDeliversUptoRow.holds Try.pinned (OpenSpec.upto portDeliversSpec)

/-- 'remontoirlaw18.PortOrders', WHERE WHAT IT READS IS OF BULK AT MOST 1048576: true; the input reads as it did. -/
def portOrdersUptoRow : OpenClaim := { program := "yteddflcloeelhaa", sum := "f9cde9f6907a79acfb4569c9f194cd2be32256c3fdfdc5213b49effb4fcdddc0", func := "remontoir/remontoirlaw18.PortOrders", spec := "portOrders", unfollowed := true, recurses := true, apart := false, narrowed := true }
def PortOrdersUptoSaid : Prop := portOrdersUptoRow.holds Try.pinned (OpenSpec.upto portOrdersSpec)

end Rows
end Go.Proofs.Yteddflcloeelhaa
