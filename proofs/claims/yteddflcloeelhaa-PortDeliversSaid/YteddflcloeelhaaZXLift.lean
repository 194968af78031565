/- What reads as data of a Go type reads as the kind of that type: the step from a row's arguments to the contracts. No condition. -/
import Derived.Test.YteddflcloeelhaaZWMore
import Derived.ChangeArms
import Derived.WideShapes
import Derived.ProofKit
namespace Go.Proofs.YteddflcloeelhaaX
open Go.RowKit Go.Proofs.YteddflcloeelhaaW.PrintWords Go.Proofs.YteddflcloeelhaaW.PrintLast Go.Proofs.YteddflcloeelhaaW.PrintMore
set_option linter.unusedVariables false
set_option linter.unusedSimpArgs false

/-- What reads as data of type t has a value of the kind d, which is good. -/
def Lifts {α : Type} (P : Program) (d : Kd α) (t : TypeId) (good : α → Prop) : Prop :=
  ∀ (H : Type) (enc : TypeId × Value → H) (w : World) (base : Nat) (spare : Nat → Bool) (held : Bool) (fuel : Nat) (cs : List Value) (x : DataW H × List MemPlace),
    DataW.trod enc P w base spare held fuel t cs = some x → ∃ a : α, d.K w a cs ∧ good a

theorem lift_int {P : Program} {t : TypeId} {k : IntKind} (hu : P.underlying t = some (.int k)) : Lifts P (Kd.int k) t (fun n => (Lit.int k n).wf = true) := by
  intro H enc w base spare held fuel cs x h
  obtain ⟨n, hc, _, hw⟩ := DataW.trod_int hu h
  exact ⟨n, hc, hw⟩
theorem cells_get {w : World} {base : Nat} {a : Addr} {n : Nat} {cs : List Value} (h : w.cells? base a n = some cs) : cs.length = n ∧ ∀ i u, cs[i]? = some u → w.cell? (a.add i) = some u := by
  unfold World.cells? at h
  split at h
  · have hl := mapM_some_length h
    refine ⟨by simpa using hl, fun i u hi => ?_⟩
    have hlt : i < n := by
      have := (List.getElem?_eq_some_iff.1 hi).1
      simp at hl
      omega
    have := mapM_some_get h i i (by simp [hlt])
    rw [this, hi]
  · cases h

theorem lift_slice {α : Type} {P : Program} {d : Kd α} {t e : TypeId} {good : α → Prop} (hu : P.underlying t = some (.slice e)) (hsz : P.cellsOf e = d.sz) (hd : Lifts P d e good) :
    Lifts P (Kd.slice e d) t (fun l => l.length ≤ 9223372036854775807 ∧ ∀ x ∈ l, good x) := by
  intro H enc w base spare held fuel cs x h
  rcases DataW.trod_slice hu h with ⟨rfl, _⟩ | ⟨a, len, cap, elems, rest, n, _, rfl, _, hb, hl, hm, hel, hat, _⟩
  · exact ⟨[], ⟨none, 0, rfl, Nat.le_refl _, Kd.C_nil d w⟩, by simp, by simp⟩
  · have hone : ∀ i : Fin len, ∃ p : α × List Value, d.K w p.1 p.2 ∧ good p.1 ∧ p.2.length = d.sz ∧ ∀ j u, p.2[j]? = some u → w.cell? (a.add (i.1 * d.sz + j)) = some u := by
      intro ⟨i, hi⟩
      have h1 := hat i hi
      have h2 : elems[i]? = some elems[i] := List.getElem?_eq_getElem (by omega)
      rw [h2] at h1
      obtain ⟨cs', h3, h4⟩ := Option.bind_eq_some_iff.1 h1
      obtain ⟨b, h5, h6⟩ := hd H enc w base spare held n cs' _ h4
      obtain ⟨h7, h8⟩ := cells_get h3
      refine ⟨(b, cs'), h5, h6, by rw [h7]; exact hsz, fun j u hj => ?_⟩
      have h9 := h8 j u hj
      rw [hsz] at h9
      have ha : (a.add (i * d.sz)).add j = a.add (i * d.sz + j) := by
        unfold Addr.add
        by_cases h1 : i * d.sz = 0 <;> by_cases h2 : j = 0 <;> simp [h1, h2, Nat.add_assoc]
      rw [← ha]
      exact h9
    let f : Fin len → α × List Value := fun i => Classical.choose (hone i)
    have hf : ∀ i, d.K w (f i).1 (f i).2 ∧ good (f i).1 ∧ (f i).2.length = d.sz ∧ ∀ j u, (f i).2[j]? = some u → w.cell? (a.add (i.1 * d.sz + j)) = some u := fun i => Classical.choose_spec (hone i)
    refine ⟨List.ofFn (fun i => (f i).1), ⟨some a, cap, by rw [List.length_ofFn], by rw [List.length_ofFn]; exact hl, rfl, ?_, fun _ => ⟨a, rfl, ?_⟩⟩, ?_, ?_⟩
    · rw [List.length_ofFn]; unfold maxLen at hm; omega
    · intro j p hp
      rw [List.getElem?_ofFn] at hp
      split at hp
      · rename_i hj
        injection hp with hp
        subst hp
        obtain ⟨h1, _, h3, h4⟩ := hf ⟨j, hj⟩
        exact ⟨_, h3, h1, h4⟩
      · cases hp
    · rw [List.length_ofFn]; unfold maxLen at hm; omega
    · intro y hy
      rw [List.mem_ofFn] at hy
      obtain ⟨i, rfl⟩ := hy
      exact (hf i).2.1

/-- Fields one behind the other, from cell o on, read as the kind d. -/
def LiftsAt {α : Type} (P : Program) (d : Kd α) (fs : List Field) (o : Nat) (good : α → Prop) : Prop :=
  ∀ (H : Type) (enc : TypeId × Value → H) (w : World) (base : Nat) (spare : Nat → Bool) (held : Bool) (fuel : Nat) (cs : List Value),
    (∀ f ∈ fs, ∃ x, DataW.trod enc P w base spare held fuel f.type ((cs.drop f.offset).take (P.cellsOf f.type)) = some x) → ∃ a : α, d.K w a ((cs.drop o).take d.sz) ∧ good a
theorem lift_last {α : Type} {P : Program} {d : Kd α} {f : Field} {o : Nat} {good : α → Prop} (ho : f.offset = o) (hsz : P.cellsOf f.type = d.sz) (hd : Lifts P d f.type good) : LiftsAt P d [f] o good := by
  intro H enc w base spare held fuel cs h
  obtain ⟨x, hx⟩ := h f (by simp)
  rw [ho, hsz] at hx
  exact hd H enc w base spare held fuel _ x hx
theorem lift_cons {α β : Type} {P : Program} {d : Kd α} {d' : Kd β} {f : Field} {fs : List Field} {o o' : Nat} {good : α → Prop} {good' : β → Prop} (ho : f.offset = o) (hsz : P.cellsOf f.type = d.sz) (hd : Lifts P d f.type good)
    (ho' : o + d.sz = o') (hd' : LiftsAt P d' fs o' good') : LiftsAt P (Kd.pair d d') (f :: fs) o (fun p => good p.1 ∧ good' p.2) := by
  intro H enc w base spare held fuel cs h
  obtain ⟨x, hx⟩ := h f (by simp)
  rw [ho, hsz] at hx
  obtain ⟨a, ha, ga⟩ := hd H enc w base spare held fuel _ x hx
  obtain ⟨b, hb, gb⟩ := hd' H enc w base spare held fuel cs (fun g hg => h g (by simp [hg]))
  refine ⟨(a, b), ⟨_, _, ?_, ha, hb⟩, ga, gb⟩
  show (cs.drop o).take (d.sz + d'.sz) = _
  rw [List.take_add, List.drop_drop, ho']
theorem lift_struct {α : Type} {P : Program} {d : Kd α} {t : TypeId} {fs : Array Field} {good : α → Prop} (hu : P.underlying t = some (.struct fs)) (hC : P.cellsOf t = d.sz) (hd : LiftsAt P d fs.toList 0 good) : Lifts P d t good := by
  intro H enc w base spare held fuel cs x h
  obtain ⟨xs, n, _, _, hl, hxs, hat⟩ := DataW.trod_struct hu h
  obtain ⟨a, ha, ga⟩ := hd H enc w base spare held n cs (fun f hf => by
    obtain ⟨i, hi⟩ := List.getElem?_of_mem hf
    have hi' : fs[i]? = some f := by simpa using hi
    have h1 := hat i f hi'
    have hlt : i < xs.length := by
      have := (Array.getElem?_eq_some_iff.1 hi').1
      omega
    rw [List.getElem?_eq_getElem hlt] at h1
    exact ⟨_, h1⟩)
  refine ⟨a, ?_, ga⟩
  have : (cs.drop 0).take d.sz = cs := by rw [List.drop_zero, List.take_of_length_le (by omega)]
  rw [this] at ha
  exact ha
theorem lift_iso {α β : Type} {P : Program} {d : Kd α} {t : TypeId} {good : α → Prop} (f : β → α) (g : α → β) (hfg : ∀ x, f (g x) = x) (hd : Lifts P d t good) : Lifts P (Kd.iso d f) t (fun y => good (f y)) := by
  intro H enc w base spare held fuel cs x h
  obtain ⟨a, ha, ga⟩ := hd H enc w base spare held fuel cs x h
  refine ⟨g a, ?_, ?_⟩
  · show d.K w (f (g a)) cs
    rw [hfg]
    exact ha
  · show good (f (g a))
    rw [hfg]
    exact ga
end Go.Proofs.YteddflcloeelhaaX
