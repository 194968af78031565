/- Short words for what the printed texts say often. Plain theorems and definitions, no condition. -/
import Derived.WalkKit
import Derived.ProofKit
import Derived.Test.YteddflcloeelhaaOWMore
import Derived.Test.YteddflcloeelhaaOWTab
import Derived.Test.YteddflcloeelhaaOXWords
namespace Go.Proofs.YteddflcloeelhaaW.PrintLast
open Go.RowKit Go.Proofs.YteddflcloeelhaaW.PrintWords
/-- n Bools, written as a number: the lowest bit is the first. -/
def bm (n b : Nat) : Array Bool := ((List.range n).map fun i => b.testBit i).toArray
section
variable {P : Program} {ops : Array Oper} {Q : Exit → Act → World → Prop} {md : Region.Mode} {S : World → Prop} {ds : List Nat} {T : Bool × List (List Nat × List Nat)}
/-- pure_, what is alike at each place written once. -/
theorem pa_ (i n : Nat) (l' : Array Bool) {oi : Oper} {v : Value} {fuel : Nat} {l : Array Bool} {a a' : Act} {w : World} (hT : Aside0 (rtab md ops = T))
    (hi : ops[i]? = some oi := by exact rfl) (hN : oi.dst = some n := by exact rfl) (hc : anyT T l.toList l'.toList i = true := by kernel_rfl)
    (hQ : ∀ c a w, Q (.panic c) (a.put oi.dst v) w → Q (.panic c) a w := by exact fun _ _ _ h => h)
    (hy : Yields P ops oi v a := by (refine Or.inl ⟨by rfl, ?_⟩; intro w'; go_simp; with_reducible rfl))
    (ha : a.put (some n) v = a' := by (simp only [Act.put, sbA, sbB, sbC, i64_w, i32_w]; rfl))
    (h : wpAnyLast P md ops Q S ds fuel l' a' w) : wpAnyLast P md ops Q S ds (fuel + 1) l a w :=
  pure_ l' hi hN (any_of hT.out hc) hQ hy ha h
theorem nm_ (n : Nat) {fuel : Nat} {l : Array Bool} {a b a' : Act} {v : Value} {w : World} (e : a = Act.put b (some n) v := by exact rfl)
    (ha : Act.put b (some n) v = a' := by (simp only [Act.put, sbA, sbB, sbC, i64_w, i32_w]; rfl)) (h : wpAnyLast P md ops Q S ds fuel l a' w) : wpAnyLast P md ops Q S ds fuel l a w := norm_ (e.trans ha) h
end
end Go.Proofs.YteddflcloeelhaaW.PrintLast
namespace Go.Proofs.YteddflcloeelhaaW.PrintWords
open Go.RowKit
theorem bc_ {w w' : World} {p : Addr} {v : Value} (hb : Below w.heap.size w w') (h : w.cell? p = some v) : w'.cell? p = some v := (hb.cell (World.block_lt_of_cell? w _ h)).trans h
theorem bk3_ {w : World} {g : Nat} {t : TypeId} {a0 a1 a2 : Value} (h : w.heap[g]? = some (.cells #[a0, a1, a2] t (0, 0))) : w.cell? ⟨g, 0, none⟩ = some a0 ∧ w.cell? ⟨g, 1, none⟩ = some a1 ∧ w.cell? ⟨g, 2, none⟩ = some a2 ∧ w.frozen? ⟨g, 0, none⟩ = false ∧ w.frozen? ⟨g, 1, none⟩ = false ∧ w.frozen? ⟨g, 2, none⟩ = false :=
  ⟨(blk_cell h 0).trans rfl, (blk_cell h 1).trans rfl, (blk_cell h 2).trans rfl, blk_frozen h 0, blk_frozen h 1, blk_frozen h 2⟩
theorem bh3_ {w : World} {g : Nat} {t : TypeId} {a0 a1 a2 : Value} (h : w.heap[g]? = some (.cells #[a0, a1, a2] t (0, 0))) : w.cell? ⟨g, 0, none⟩ = some a0 ∧ w.cell? ⟨g, 1, none⟩ = some a1 ∧ w.cell? ⟨g, 2, none⟩ = some a2 :=
  ⟨(blk_cell h 0).trans rfl, (blk_cell h 1).trans rfl, (blk_cell h 2).trans rfl⟩
theorem bp3_ {w : World} {g : Nat} {t : TypeId} {z0 z1 z2 a0 a1 a2 : Value} (h : w.heap[g]? = some (.cells #[z0, z1, z2] t (0, 0))) : (((w.setCell ⟨g, 0, none⟩ a0).setCell ⟨g, 1, none⟩ a1).setCell ⟨g, 2, none⟩ a2).heap[g]? = some (.cells #[a0, a1, a2] t (0, 0)) := by
  refine blk_put (cs := #[a0, a1, z2]) ?_ 2 _ rfl
  refine blk_put (cs := #[a0, z1, z2]) ?_ 1 _ rfl
  refine blk_put (cs := #[z0, z1, z2]) ?_ 0 _ rfl
  exact h
theorem bk9_ {w : World} {g : Nat} {t : TypeId} {a0 a1 a2 a3 a4 a5 a6 a7 a8 : Value} (h : w.heap[g]? = some (.cells #[a0, a1, a2, a3, a4, a5, a6, a7, a8] t (0, 0))) : w.cell? ⟨g, 0, none⟩ = some a0 ∧ w.cell? ⟨g, 1, none⟩ = some a1 ∧ w.cell? ⟨g, 2, none⟩ = some a2 ∧ w.cell? ⟨g, 3, none⟩ = some a3 ∧ w.cell? ⟨g, 4, none⟩ = some a4 ∧ w.cell? ⟨g, 5, none⟩ = some a5 ∧ w.cell? ⟨g, 6, none⟩ = some a6 ∧ w.cell? ⟨g, 7, none⟩ = some a7 ∧ w.cell? ⟨g, 8, none⟩ = some a8 ∧ w.frozen? ⟨g, 0, none⟩ = false ∧ w.frozen? ⟨g, 1, none⟩ = false ∧ w.frozen? ⟨g, 2, none⟩ = false ∧ w.frozen? ⟨g, 3, none⟩ = false ∧ w.frozen? ⟨g, 4, none⟩ = false ∧ w.frozen? ⟨g, 5, none⟩ = false ∧ w.frozen? ⟨g, 6, none⟩ = false ∧ w.frozen? ⟨g, 7, none⟩ = false ∧ w.frozen? ⟨g, 8, none⟩ = false :=
  ⟨(blk_cell h 0).trans rfl, (blk_cell h 1).trans rfl, (blk_cell h 2).trans rfl, (blk_cell h 3).trans rfl, (blk_cell h 4).trans rfl, (blk_cell h 5).trans rfl, (blk_cell h 6).trans rfl, (blk_cell h 7).trans rfl, (blk_cell h 8).trans rfl, blk_frozen h 0, blk_frozen h 1, blk_frozen h 2, blk_frozen h 3, blk_frozen h 4, blk_frozen h 5, blk_frozen h 6, blk_frozen h 7, blk_frozen h 8⟩
theorem bp9_ {w : World} {g : Nat} {t : TypeId} {z0 z1 z2 z3 z4 z5 z6 z7 z8 a0 a1 a2 a3 a4 a5 a6 a7 a8 : Value} (h : w.heap[g]? = some (.cells #[z0, z1, z2, z3, z4, z5, z6, z7, z8] t (0, 0))) : (((((((((w.setCell ⟨g, 0, none⟩ a0).setCell ⟨g, 1, none⟩ a1).setCell ⟨g, 2, none⟩ a2).setCell ⟨g, 3, none⟩ a3).setCell ⟨g, 4, none⟩ a4).setCell ⟨g, 5, none⟩ a5).setCell ⟨g, 6, none⟩ a6).setCell ⟨g, 7, none⟩ a7).setCell ⟨g, 8, none⟩ a8).heap[g]? = some (.cells #[a0, a1, a2, a3, a4, a5, a6, a7, a8] t (0, 0)) := by
  refine blk_put (cs := #[a0, a1, a2, a3, a4, a5, a6, a7, z8]) ?_ 8 _ rfl
  refine blk_put (cs := #[a0, a1, a2, a3, a4, a5, a6, z7, z8]) ?_ 7 _ rfl
  refine blk_put (cs := #[a0, a1, a2, a3, a4, a5, z6, z7, z8]) ?_ 6 _ rfl
  refine blk_put (cs := #[a0, a1, a2, a3, a4, z5, z6, z7, z8]) ?_ 5 _ rfl
  refine blk_put (cs := #[a0, a1, a2, a3, z4, z5, z6, z7, z8]) ?_ 4 _ rfl
  refine blk_put (cs := #[a0, a1, a2, z3, z4, z5, z6, z7, z8]) ?_ 3 _ rfl
  refine blk_put (cs := #[a0, a1, z2, z3, z4, z5, z6, z7, z8]) ?_ 2 _ rfl
  refine blk_put (cs := #[a0, z1, z2, z3, z4, z5, z6, z7, z8]) ?_ 1 _ rfl
  refine blk_put (cs := #[z0, z1, z2, z3, z4, z5, z6, z7, z8]) ?_ 0 _ rfl
  exact h
end Go.Proofs.YteddflcloeelhaaW.PrintWords
namespace Go.Proofs.YteddflcloeelhaaW.PrintMore
open Go.RowKit Go.Proofs.YteddflcloeelhaaW.PrintWords
theorem vf3_ {α : Type} {d : Kd α} {e : TypeId} {W : World} {base : Nat} {ok : Nat → Prop} {v : Value} {xs : List α} {g : Nat} {a0 a1 a2 : Value} (h : Kd.V d e W base ok v xs) (hok : ∀ k, ok k → k ≠ g) : Kd.V d e (((W.setCell ⟨g, 0, none⟩ a0).setCell ⟨g, 1, none⟩ a1).setCell ⟨g, 2, none⟩ a2) base ok v xs := (Kd.V_far (p := ⟨g, 2, none⟩) (Kd.V_far (p := ⟨g, 1, none⟩) (Kd.V_far (p := ⟨g, 0, none⟩) h hok a0) hok a1) hok a2)
theorem vf9_ {α : Type} {d : Kd α} {e : TypeId} {W : World} {base : Nat} {ok : Nat → Prop} {v : Value} {xs : List α} {g : Nat} {a0 a1 a2 a3 a4 a5 a6 a7 a8 : Value} (h : Kd.V d e W base ok v xs) (hok : ∀ k, ok k → k ≠ g) : Kd.V d e (((((((((W.setCell ⟨g, 0, none⟩ a0).setCell ⟨g, 1, none⟩ a1).setCell ⟨g, 2, none⟩ a2).setCell ⟨g, 3, none⟩ a3).setCell ⟨g, 4, none⟩ a4).setCell ⟨g, 5, none⟩ a5).setCell ⟨g, 6, none⟩ a6).setCell ⟨g, 7, none⟩ a7).setCell ⟨g, 8, none⟩ a8) base ok v xs := (Kd.V_far (p := ⟨g, 8, none⟩) (Kd.V_far (p := ⟨g, 7, none⟩) (Kd.V_far (p := ⟨g, 6, none⟩) (Kd.V_far (p := ⟨g, 5, none⟩) (Kd.V_far (p := ⟨g, 4, none⟩) (Kd.V_far (p := ⟨g, 3, none⟩) (Kd.V_far (p := ⟨g, 2, none⟩) (Kd.V_far (p := ⟨g, 1, none⟩) (Kd.V_far (p := ⟨g, 0, none⟩) h hok a0) hok a1) hok a2) hok a3) hok a4) hok a5) hok a6) hok a7) hok a8)
section
variable {α : Type} {d : Kd α} {e : TypeId} {w w1 : World} {base : Nat} {ok : Nat → Prop} {v : Value} {xs : List α}
theorem vb_ (h : Aside0 (Kd.V d e w base ok v xs)) (hb : Below w.heap.size w w1) : Aside0 (Kd.V d e w1 base ok v xs) := ⟨Kd.V_below h.out hb⟩
theorem sb_ (h : Aside0 (Kd.S d e w base ok v xs)) (hb : Below w.heap.size w w1) : Aside0 (Kd.S d e w1 base ok v xs) := ⟨Kd.S_below h.out hb⟩
theorem rb_ (h : Aside0 (Kd.R d e w base ok v xs)) (hb : Below w.heap.size w w1) : Aside0 (Kd.R d e w1 base ok v xs) := ⟨Kd.R_below h.out hb⟩
theorem kb_ {g : Nat} {o : Obj} (h : Aside0 (w.heap[g]? = some o)) (hb : Below w.heap.size w w1) : Aside0 (w1.heap[g]? = some o) := ⟨blk_below h.out hb⟩
theorem hb_ {w0 : World} (h : Aside0 (Below w0.heap.size w0 w)) (hb : Below w.heap.size w w1) : Aside0 (Below w0.heap.size w0 w1) := ⟨below_step h.out hb⟩
end
end Go.Proofs.YteddflcloeelhaaW.PrintMore
