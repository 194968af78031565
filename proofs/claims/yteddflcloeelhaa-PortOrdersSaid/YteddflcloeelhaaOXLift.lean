/- What reads as data of a Go type reads as the kind of that type: the step from a row's arguments to the contracts. No condition. -/
import Derived.Test.YteddflcloeelhaaOWMore
import Derived.ChangeArms
import Derived.WideShapes
import Derived.ProofKit
namespace Go.Proofs.YteddflcloeelhaaX
open Go.RowKit Go.Proofs.YteddflcloeelhaaW.PrintWords Go.Proofs.YteddflcloeelhaaW.PrintLast Go.Proofs.YteddflcloeelhaaW.PrintMore
set_option linter.unusedVariables false
set_option linter.unusedSimpArgs false

/-- What reads as data of type t has a value of the kind d, which is good. -/
def Lifts {α : Type} (P : Program) (d : Kd α) (t : TypeId) (good : α → Prop) : Prop :=
  ∀ (H : Type) (enc : TypeId × Value → H) (w : World) (base : Nat) (spare : Nat → Bool) (held : Bool) (fuel : Nat) (cs : List Value) (x : DataW H × List MemPlace),
    DataW.trod enc P w base spare held fuel t cs = some x → ∃ a : α, d.K w a cs ∧ good a

theorem lift_int {P : Program} {t : TypeId} {k : IntKind} (hu : P.underlying t = some (.int k)) : Lifts P (Kd.int k) t (fun n => (Lit.int k n).wf = true) := by
  intro H enc w base spare held fuel cs x h
  obtain ⟨n, hc, _, hw⟩ := DataW.trod_int hu h
  exact ⟨n, hc, hw⟩
theorem cells_get {w : World} {base : Nat} {a : Addr} {n : Nat} {cs : List Value} (h : w.cells? base a n = some cs) : cs.length = n ∧ ∀ i u, cs[i]? = some u → w.cell? (a.add i) = some u := by
  unfold World.cells? at h
  split at h
  · have hl := mapM_some_length h
    refine ⟨by simpa using hl, fun i u hi => ?_⟩
    have hlt : i < n := by
      have := (List.getElem?_eq_some_iff.1 hi).1
      simp at hl
      omega
    have := mapM_some_get h i i (by simp [hlt])
    rw [this, hi]
  · cases h

theorem lift_slice {α : Type} {P : Program} {d : Kd α} {t e : TypeId} {good : α → Prop} (hu : P.underlying t = some (.slice e)) (hsz : P.cellsOf e = d.sz) (hd : Lifts P d e good) :
    Lifts P (Kd.slice e d) t (fun l => l.length ≤ 9223372036854775807 ∧ ∀ x ∈ l, good x) := by
  intro H enc w base spare held fuel cs x h
  rcases DataW.trod_slice hu h with ⟨rfl, _⟩ | ⟨a, len, cap, elems, rest, n, _, rfl, _, hb, hl, hm, hel, hat, _⟩
  · exact ⟨[], ⟨none, 0, rfl, Nat.le_refl _, Kd.C_nil d w⟩, by simp, by simp⟩
  · have hone : ∀ i : Fin len, ∃ p : α × List Value, d.K w p.1 p.2 ∧ good p.1 ∧ p.2.length = d.sz ∧ ∀ j u, p.2[j]? = some u → w.cell? (a.add (i.1 * d.sz + j)) = some u := by
      intro ⟨i, hi⟩
      have h1 := hat i hi
      have h2 : elems[i]? = some elems[i] := List.getElem?_eq_getElem (by omega)
      rw [h2] at h1
      obtain ⟨cs', h3, h4⟩ := Option.bind_eq_some_iff.1 h1
      obtain ⟨b, h5, h6⟩ := hd H enc w base spare held n cs' _ h4
      obtain ⟨h7, h8⟩ := cells_get h3
      refine ⟨(b, cs'), h5, h6, by rw [h7]; exact hsz, fun j u hj => ?_⟩
      have h9 := h8 j u hj
      rw [hsz] at h9
      have ha : (a.add (i * d.sz)).add j = a.add (i * d.sz + j) := by
        unfold Addr.add
        by_cases h1 : i * d.sz = 0 <;> by_cases h2 : j = 0 <;> simp [h1, h2, Nat.add_assoc]
      rw [← ha]
      exact h9
    let f : Fin len → α × List Value := fun i => Classical.choose (hone i)
    have hf : ∀ i, d.K w (f i).1 (f i).2 ∧ good (f i).1 ∧ (f i).2.length = d.sz ∧ ∀ j u, (f i).2[j]? = some u → w.cell? (a.add (i.1 * d.sz + j)) = some u := fun i => Classical.choose_spec (hone i)
    refine ⟨List.ofFn (fun i => (f i).1), ⟨some a, cap, by rw [List.length_ofFn], by rw [List.length_ofFn]; exact hl, rfl, ?_, fun _ => ⟨a, rfl, ?_⟩⟩, ?_, ?_⟩
    · rw [List.length_ofFn]; unfold maxLen at hm; omega
    · intro j p hp
      rw [List.getElem?_ofFn] at hp
      split at hp
      · rename_i hj
        injection hp with hp
        subst hp
        obtain ⟨h1, _, h3, h4⟩ := hf ⟨j, hj⟩
        exact ⟨_, h3, h1, h4⟩
      · cases hp
    · rw [List.length_ofFn]; unfold maxLen at hm; omega
    · intro y hy
      rw [List.mem_ofFn] at hy
      obtain ⟨i, rfl⟩ := hy
      exact (hf i).2.1

end Go.Proofs.YteddflcloeelhaaX
