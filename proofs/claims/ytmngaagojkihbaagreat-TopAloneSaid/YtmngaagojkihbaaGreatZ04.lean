/- Contracts of functions that the statement TopAlone reaches, and plain lemmas. No condition. -/
import Derived.Test.YtmngaagojkihbaaGreatZ03
namespace Go.Proofs.YtmngaagojkihbaaGreat.FTop
open Go.RowKit Go.Proofs.YtmngaagojkihbaaGreatW.PrintWords Go.Proofs.YtmngaagojkihbaaGreatW.PrintLast Go.Proofs.YtmngaagojkihbaaGreatW.PrintMore
set_option linter.unusedVariables false
set_option linter.unusedSimpArgs false
abbrev Ret (n : Nat) (args : Array Value) (w : World) (r : Value) : Prop := Calls Tryz.prog n args w fun e w' => e = .returned r ∧ Below w.heap.size w w'
theorem bl0 {w : World} : Below w.heap.size w w := Below.refl _ _
theorem bl1 {w : World} {o : Obj} : Below w.heap.size w (w.alloc o) := below_alloc (Below.refl _ _) o
theorem bl2 {w : World} {o o2 : Obj} : Below w.heap.size w ((w.alloc o).alloc o2) := below_alloc bl1 o2
theorem bl3 {w : World} {o o2 o3 : Obj} : Below w.heap.size w (((w.alloc o).alloc o2).alloc o3) := below_alloc bl2 o3
theorem al_cell {w : World} {a : Addr} {v : Value} (h : w.cell? a = some v) : ∀ o, (w.alloc o).cell? a = some v := fun o => (World.cell?_alloc_lt _ _ _ (World.block_lt_of_cell? w _ h)).trans h
theorem be_cell {w w1 : World} {a : Addr} {v : Value} (hb : Below w.heap.size w w1) (h : w.cell? a = some v) : w1.cell? a = some v := (hb.cell (World.block_lt_of_cell? w _ h)).trans h
theorem C_alloc {α : Type} {d : Kd α} {w : World} {A : Option Addr} {n : Nat} {xs : List α} (h : d.C w A n xs) (o : Obj) : d.C (w.alloc o) A n xs := Kd.C_below h bl1
theorem elI {w : World} {A : Option Addr} {n : Nat} {k : IntKind} {l : List Int} (h : Kd.C (Kd.int k) w A n l) (i : Nat) (hi : i < l.length) : ∃ ad t, A = some ad ∧ Aside0 (l[i] = t) ∧ w.cell? (ad.add i) = some (.int k t) := by
  obtain ⟨ad, e, h0⟩ := Kd.at_int h i (by omega) (by have := h.1; omega)
  exact ⟨ad, l[i], e, ⟨rfl⟩, by simpa [rd, List.getD_eq_getElem?_getD, List.getElem?_eq_getElem hi] using h0⟩
theorem elB {w : World} {A : Option Addr} {n : Nat} {l : List Bool} (h : Kd.C Kd.bool w A n l) (i : Nat) (hi : i < l.length) : ∃ ad t, A = some ad ∧ Aside0 (l[i] = t) ∧ w.cell? (ad.add i) = some (.bool t) := by
  obtain ⟨ad, e, h0⟩ := Kd.at_bool h i (by omega) (by have := h.1; omega)
  exact ⟨ad, l[i], e, ⟨rfl⟩, by simpa [rdOf, List.getD_eq_getElem?_getD, List.getElem?_eq_getElem hi] using h0⟩
theorem litC {w : World} {g : Nat} {t : TypeId} {k : IntKind} (xs : List Int) (h : w.heap[g]? = some (.cells (xs.map (Value.int k)).toArray t (0, 0))) (hl : xs.length ≤ 1000) : Kd.C (Kd.int k) w (some ⟨g, 0, none⟩) xs.length xs := by
  refine Kd.C_of_reads (enc := Value.int k) (d := (0 : Int)) (h1 := fun _ => rfl) ⟨rfl, by omega, fun hn => ⟨_, rfl, fun i hi => ?_⟩⟩
  have e : (⟨g, 0, none⟩ : Addr).add i = ⟨g, i, none⟩ := by unfold Addr.add; split <;> simp_all
  rw [e, blk_cell h i]
  simp [List.getD_eq_getElem?_getD, List.getElem?_eq_getElem hi]
theorem el89 {w : World} {A : Option Addr} {n : Nat} {l : List S89} (h : Kd.C k89 w A n l) (i : Nat) (hi : i < l.length) : ∃ (ad : Addr) (t : S89), A = some ad ∧ Aside0 (l[i] = t) ∧ w.cell? (ad.add (i * 3)) = some (.int .i64 t.f0) ∧ w.cell? ⟨(ad.add (i * 3)).block, (ad.add (i * 3)).off + 1, none⟩ = some (.int .i64 t.f1) ∧ w.cell? ⟨(ad.add (i * 3)).block, (ad.add (i * 3)).off + 2, none⟩ = some (.int .i64 t.f2) := by
  obtain ⟨ad, e, hh⟩ := at_T89 h i (by omega) (by have := h.1; omega)
  have e2 : rd_T89 l (i : Int) = l[i] := by simp [rd_T89, List.getD_eq_getElem?_getD, List.getElem?_eq_getElem hi]
  rw [e2, Int.toNat_natCast] at hh
  exact ⟨ad, l[i], e, ⟨rfl⟩, hh⟩
theorem el44 {w : World} {A : Option Addr} {n : Nat} {l : List S44} (h : Kd.C k44 w A n l) (i : Nat) (hi : i < l.length) : ∃ (ad : Addr) (A3 : Option Addr) (c3 : Nat) (t : S44), A = some ad ∧ Aside0 (l[i] = t) ∧ w.cell? (ad.add (i * 4)) = some (.int .i64 t.f0) ∧ w.cell? ⟨(ad.add (i * 4)).block, (ad.add (i * 4)).off + 1, none⟩ = some (.int .i64 t.f1) ∧ w.cell? ⟨(ad.add (i * 4)).block, (ad.add (i * 4)).off + 2, none⟩ = some (.int .i64 t.f2) ∧ w.cell? ⟨(ad.add (i * 4)).block, (ad.add (i * 4)).off + 3, none⟩ = some (.slice A3 t.f3.length c3) ∧ t.f3.length ≤ c3 ∧ k89.C w A3 t.f3.length t.f3 := by
  obtain ⟨ad, A3, c3, e, hh⟩ := at_T44 h i (by omega) (by have := h.1; omega)
  have e2 : rd_T44 l (i : Int) = l[i] := by simp [rd_T44, List.getD_eq_getElem?_getD, List.getElem?_eq_getElem hi]
  rw [e2, Int.toNat_natCast] at hh
  exact ⟨ad, A3, c3, l[i], e, ⟨rfl⟩, hh⟩
theorem el182 {w : World} {A : Option Addr} {n : Nat} {l : List S182} (h : Kd.C k182 w A n l) (i : Nat) (hi : i < l.length) : ∃ (ad : Addr) (t : S182), A = some ad ∧ Aside0 (l[i] = t) ∧ w.cell? (ad.add (i * 6)) = some (.int .i64 t.f0) ∧ w.cell? ⟨(ad.add (i * 6)).block, (ad.add (i * 6)).off + 1, none⟩ = some (.int .i64 t.f1) ∧ w.cell? ⟨(ad.add (i * 6)).block, (ad.add (i * 6)).off + 2, none⟩ = some (.int .i64 t.f2) ∧ w.cell? ⟨(ad.add (i * 6)).block, (ad.add (i * 6)).off + 3, none⟩ = some (.int .i64 t.f3) ∧ w.cell? ⟨(ad.add (i * 6)).block, (ad.add (i * 6)).off + 4, none⟩ = some (.int .i64 t.f4) ∧ w.cell? ⟨(ad.add (i * 6)).block, (ad.add (i * 6)).off + 5, none⟩ = some (.bool t.f5) := by
  obtain ⟨ad, e, hh⟩ := at_T182 h i (by omega) (by have := h.1; omega)
  have e2 : rd_T182 l (i : Int) = l[i] := by simp [rd_T182, List.getD_eq_getElem?_getD, List.getElem?_eq_getElem hi]
  rw [e2, Int.toNat_natCast] at hh
  exact ⟨ad, l[i], e, ⟨rfl⟩, hh⟩
theorem el85 {w : World} {A : Option Addr} {n : Nat} {l : List S85} (h : Kd.C k85 w A n l) (i : Nat) (hi : i < l.length) : ∃ (ad : Addr) (t : S85), A = some ad ∧ Aside0 (l[i] = t) ∧ w.cell? (ad.add (i * 2)) = some (.int .i64 t.f0) ∧ w.cell? ⟨(ad.add (i * 2)).block, (ad.add (i * 2)).off + 1, none⟩ = some (.int .i64 t.f1) := by
  obtain ⟨ad, e, hh⟩ := at_T85 h i (by omega) (by have := h.1; omega)
  have e2 : rd_T85 l (i : Int) = l[i] := by simp [rd_T85, List.getD_eq_getElem?_getD, List.getElem?_eq_getElem hi]
  rw [e2, Int.toNat_natCast] at hh
  exact ⟨ad, l[i], e, ⟨rfl⟩, hh⟩
theorem el91 {w : World} {A : Option Addr} {n : Nat} {l : List S91} (h : Kd.C k91 w A n l) (i : Nat) (hi : i < l.length) : ∃ (ad : Addr) (t : S91), A = some ad ∧ Aside0 (l[i] = t) ∧ w.cell? (ad.add (i * 3)) = some (.int .i64 t.f0) ∧ w.cell? ⟨(ad.add (i * 3)).block, (ad.add (i * 3)).off + 1, none⟩ = some (.int .i64 t.f1) ∧ w.cell? ⟨(ad.add (i * 3)).block, (ad.add (i * 3)).off + 2, none⟩ = some (.int .i64 t.f2) := by
  obtain ⟨ad, e, hh⟩ := at_T91 h i (by omega) (by have := h.1; omega)
  have e2 : rd_T91 l (i : Int) = l[i] := by simp [rd_T91, List.getD_eq_getElem?_getD, List.getElem?_eq_getElem hi]
  rw [e2, Int.toNat_natCast] at hh
  exact ⟨ad, l[i], e, ⟨rfl⟩, hh⟩
theorem el153 {w : World} {A : Option Addr} {n : Nat} {l : List S153} (h : Kd.C k153 w A n l) (i : Nat) (hi : i < l.length) : ∃ (ad : Addr) (t : S153), A = some ad ∧ Aside0 (l[i] = t) ∧ w.cell? (ad.add (i * 3)) = some (.int .i64 t.f0) ∧ w.cell? ⟨(ad.add (i * 3)).block, (ad.add (i * 3)).off + 1, none⟩ = some (.int .i64 t.f1) ∧ w.cell? ⟨(ad.add (i * 3)).block, (ad.add (i * 3)).off + 2, none⟩ = some (.int .i64 t.f2) := by
  obtain ⟨ad, e, hh⟩ := at_T153 h i (by omega) (by have := h.1; omega)
  have e2 : rd_T153 l (i : Int) = l[i] := by simp [rd_T153, List.getD_eq_getElem?_getD, List.getElem?_eq_getElem hi]
  rw [e2, Int.toNat_natCast] at hh
  exact ⟨ad, l[i], e, ⟨rfl⟩, hh⟩
theorem el135 {w : World} {A : Option Addr} {n : Nat} {l : List S135} (h : Kd.C k135 w A n l) (i : Nat) (hi : i < l.length) : ∃ (ad : Addr) (A3 : Option Addr) (c3 : Nat) (A6 : Option Addr) (c6 : Nat) (t : S135), A = some ad ∧ Aside0 (l[i] = t) ∧ w.cell? (ad.add (i * 9)) = some (.int .i64 t.f0.f0) ∧ w.cell? ⟨(ad.add (i * 9)).block, (ad.add (i * 9)).off + 1, none⟩ = some (.int .i64 t.f0.f1) ∧ w.cell? ⟨(ad.add (i * 9)).block, (ad.add (i * 9)).off + 2, none⟩ = some (.int .i64 t.f0.f2) ∧ w.cell? ⟨(ad.add (i * 9)).block, (ad.add (i * 9)).off + 3, none⟩ = some (.slice A3 t.f1.f0.length c3) ∧ w.cell? ⟨(ad.add (i * 9)).block, (ad.add (i * 9)).off + 4, none⟩ = some (.int .i64 t.f1.f1) ∧ w.cell? ⟨(ad.add (i * 9)).block, (ad.add (i * 9)).off + 5, none⟩ = some (.int .i64 t.f1.f2) ∧ w.cell? ⟨(ad.add (i * 9)).block, (ad.add (i * 9)).off + 6, none⟩ = some (.slice A6 t.f2.f0.length c6) ∧ w.cell? ⟨(ad.add (i * 9)).block, (ad.add (i * 9)).off + 7, none⟩ = some (.int .i64 t.f2.f1) ∧ w.cell? ⟨(ad.add (i * 9)).block, (ad.add (i * 9)).off + 8, none⟩ = some (.int .i64 t.f2.f2) ∧ t.f1.f0.length ≤ c3 ∧ (Kd.int .i64).C w A3 t.f1.f0.length t.f1.f0 ∧ t.f2.f0.length ≤ c6 ∧ (Kd.int .i64).C w A6 t.f2.f0.length t.f2.f0 := by
  obtain ⟨ad, A3, c3, A6, c6, e, hh⟩ := at_T135 h i (by omega) (by have := h.1; omega)
  have e2 : rd_T135 l (i : Int) = l[i] := by simp [rd_T135, List.getD_eq_getElem?_getD, List.getElem?_eq_getElem hi]
  rw [e2, Int.toNat_natCast] at hh
  exact ⟨ad, A3, c3, A6, c6, l[i], e, ⟨rfl⟩, hh⟩
theorem el38 {w : World} {A : Option Addr} {n : Nat} {l : List S38} (h : Kd.C k38 w A n l) (i : Nat) (hi : i < l.length) : ∃ (ad : Addr) (t : S38), A = some ad ∧ Aside0 (l[i] = t) ∧ w.cell? (ad.add (i * 3)) = some (.int .i64 t.f0) ∧ w.cell? ⟨(ad.add (i * 3)).block, (ad.add (i * 3)).off + 1, none⟩ = some (.int .i64 t.f1) ∧ w.cell? ⟨(ad.add (i * 3)).block, (ad.add (i * 3)).off + 2, none⟩ = some (.int .i64 t.f2) := by
  obtain ⟨ad, e, hh⟩ := at_T38 h i (by omega) (by have := h.1; omega)
  have e2 : rd_T38 l (i : Int) = l[i] := by simp [rd_T38, List.getD_eq_getElem?_getD, List.getElem?_eq_getElem hi]
  rw [e2, Int.toNat_natCast] at hh
  exact ⟨ad, l[i], e, ⟨rfl⟩, hh⟩
theorem el73 {w : World} {A : Option Addr} {n : Nat} {l : List S73} (h : Kd.C k73 w A n l) (i : Nat) (hi : i < l.length) : ∃ (ad : Addr) (t : S73), A = some ad ∧ Aside0 (l[i] = t) ∧ w.cell? (ad.add (i * 3)) = some (.int .i64 t.f0) ∧ w.cell? ⟨(ad.add (i * 3)).block, (ad.add (i * 3)).off + 1, none⟩ = some (.int .i64 t.f1) ∧ w.cell? ⟨(ad.add (i * 3)).block, (ad.add (i * 3)).off + 2, none⟩ = some (.int .i64 t.f2) := by
  obtain ⟨ad, e, hh⟩ := at_T73 h i (by omega) (by have := h.1; omega)
  have e2 : rd_T73 l (i : Int) = l[i] := by simp [rd_T73, List.getD_eq_getElem?_getD, List.getElem?_eq_getElem hi]
  rw [e2, Int.toNat_natCast] at hh
  exact ⟨ad, l[i], e, ⟨rfl⟩, hh⟩
theorem el87 {w : World} {A : Option Addr} {n : Nat} {l : List S87} (h : Kd.C k87 w A n l) (i : Nat) (hi : i < l.length) : ∃ (ad : Addr) (A2 : Option Addr) (c2 : Nat) (t : S87), A = some ad ∧ Aside0 (l[i] = t) ∧ w.cell? (ad.add (i * 3)) = some (.int .i64 t.f0.f0) ∧ w.cell? ⟨(ad.add (i * 3)).block, (ad.add (i * 3)).off + 1, none⟩ = some (.int .i64 t.f0.f1) ∧ w.cell? ⟨(ad.add (i * 3)).block, (ad.add (i * 3)).off + 2, none⟩ = some (.slice A2 t.f1.length c2) ∧ t.f1.length ≤ c2 ∧ k44.C w A2 t.f1.length t.f1 := by
  obtain ⟨ad, A2, c2, e, hh⟩ := at_T87 h i (by omega) (by have := h.1; omega)
  have e2 : rd_T87 l (i : Int) = l[i] := by simp [rd_T87, List.getD_eq_getElem?_getD, List.getElem?_eq_getElem hi]
  rw [e2, Int.toNat_natCast] at hh
  exact ⟨ad, A2, c2, l[i], e, ⟨rfl⟩, hh⟩
theorem el46 {w : World} {A : Option Addr} {n : Nat} {l : List S46} (h : Kd.C k46 w A n l) (i : Nat) (hi : i < l.length) : ∃ (ad : Addr) (A7 : Option Addr) (c7 : Nat) (t : S46), A = some ad ∧ Aside0 (l[i] = t) ∧ w.cell? (ad.add (i * 8)) = some (.int .i64 t.f0) ∧ w.cell? ⟨(ad.add (i * 8)).block, (ad.add (i * 8)).off + 1, none⟩ = some (.int .i64 t.f1) ∧ w.cell? ⟨(ad.add (i * 8)).block, (ad.add (i * 8)).off + 2, none⟩ = some (.int .i64 t.f2) ∧ w.cell? ⟨(ad.add (i * 8)).block, (ad.add (i * 8)).off + 3, none⟩ = some (.int .i64 t.f3) ∧ w.cell? ⟨(ad.add (i * 8)).block, (ad.add (i * 8)).off + 4, none⟩ = some (.int .i64 t.f4.f0) ∧ w.cell? ⟨(ad.add (i * 8)).block, (ad.add (i * 8)).off + 5, none⟩ = some (.int .i64 t.f4.f1) ∧ w.cell? ⟨(ad.add (i * 8)).block, (ad.add (i * 8)).off + 6, none⟩ = some (.int .i64 t.f4.f2) ∧ w.cell? ⟨(ad.add (i * 8)).block, (ad.add (i * 8)).off + 7, none⟩ = some (.slice A7 t.f4.f3.length c7) ∧ t.f4.f3.length ≤ c7 ∧ k89.C w A7 t.f4.f3.length t.f4.f3 := by
  obtain ⟨ad, A7, c7, e, hh⟩ := at_T46 h i (by omega) (by have := h.1; omega)
  have e2 : rd_T46 l (i : Int) = l[i] := by simp [rd_T46, List.getD_eq_getElem?_getD, List.getElem?_eq_getElem hi]
  rw [e2, Int.toNat_natCast] at hh
  exact ⟨ad, A7, c7, l[i], e, ⟨rfl⟩, hh⟩
theorem el41 {w : World} {A : Option Addr} {n : Nat} {l : List S41} (h : Kd.C k41 w A n l) (i : Nat) (hi : i < l.length) : ∃ (ad : Addr) (A0 : Option Addr) (c0 : Nat) (t : S41), A = some ad ∧ Aside0 (l[i] = t) ∧ w.cell? (ad.add i) = some (.slice A0 t.f0.length c0) ∧ t.f0.length ≤ c0 ∧ k46.C w A0 t.f0.length t.f0 := by
  obtain ⟨ad, A0, c0, e, hh⟩ := at_T41 h i (by omega) (by have := h.1; omega)
  have e2 : rd_T41 l (i : Int) = l[i] := by simp [rd_T41, List.getD_eq_getElem?_getD, List.getElem?_eq_getElem hi]
  rw [e2, Int.toNat_natCast] at hh
  exact ⟨ad, A0, c0, l[i], e, ⟨rfl⟩, hh⟩
theorem bx1 {w : World} {g : Nat} {t : TypeId} {v0 : Value} (h : w.heap[g]? = some (.cells #[v0] t (0, 0))) : w.cell? ⟨g, 0, none⟩ = some v0 := (blk_cell h 0).trans rfl
theorem bx1a {w : World} {g : Nat} {t : TypeId} {v0 : Value} (h : w.heap[g]? = some (.cells #[v0] t (0, 0))) : ∀ o, (w.alloc o).cell? ⟨g, 0, none⟩ = some v0 := al_cell ((blk_cell h 0).trans rfl)
theorem bx2 {w : World} {g : Nat} {t : TypeId} {v0 v1 : Value} (h : w.heap[g]? = some (.cells #[v0, v1] t (0, 0))) : w.cell? ⟨g, 0, none⟩ = some v0 ∧ w.cell? ⟨g, 1, none⟩ = some v1 := ⟨(blk_cell h 0).trans rfl, (blk_cell h 1).trans rfl⟩
theorem bx3 {w : World} {g : Nat} {t : TypeId} {v0 v1 v2 : Value} (h : w.heap[g]? = some (.cells #[v0, v1, v2] t (0, 0))) : w.cell? ⟨g, 0, none⟩ = some v0 ∧ w.cell? ⟨g, 1, none⟩ = some v1 ∧ w.cell? ⟨g, 2, none⟩ = some v2 := ⟨(blk_cell h 0).trans rfl, (blk_cell h 1).trans rfl, (blk_cell h 2).trans rfl⟩
theorem bx3a {w : World} {g : Nat} {t : TypeId} {v0 v1 v2 : Value} (h : w.heap[g]? = some (.cells #[v0, v1, v2] t (0, 0))) : (∀ o, (w.alloc o).cell? ⟨g, 0, none⟩ = some v0) ∧ (∀ o, (w.alloc o).cell? ⟨g, 1, none⟩ = some v1) ∧ (∀ o, (w.alloc o).cell? ⟨g, 2, none⟩ = some v2) := ⟨al_cell ((blk_cell h 0).trans rfl), al_cell ((blk_cell h 1).trans rfl), al_cell ((blk_cell h 2).trans rfl)⟩
theorem bx4 {w : World} {g : Nat} {t : TypeId} {v0 v1 v2 v3 : Value} (h : w.heap[g]? = some (.cells #[v0, v1, v2, v3] t (0, 0))) : w.cell? ⟨g, 0, none⟩ = some v0 ∧ w.cell? ⟨g, 1, none⟩ = some v1 ∧ w.cell? ⟨g, 2, none⟩ = some v2 ∧ w.cell? ⟨g, 3, none⟩ = some v3 := ⟨(blk_cell h 0).trans rfl, (blk_cell h 1).trans rfl, (blk_cell h 2).trans rfl, (blk_cell h 3).trans rfl⟩
theorem bx4a {w : World} {g : Nat} {t : TypeId} {v0 v1 v2 v3 : Value} (h : w.heap[g]? = some (.cells #[v0, v1, v2, v3] t (0, 0))) : (∀ o, (w.alloc o).cell? ⟨g, 0, none⟩ = some v0) ∧ (∀ o, (w.alloc o).cell? ⟨g, 1, none⟩ = some v1) ∧ (∀ o, (w.alloc o).cell? ⟨g, 2, none⟩ = some v2) ∧ (∀ o, (w.alloc o).cell? ⟨g, 3, none⟩ = some v3) := ⟨al_cell ((blk_cell h 0).trans rfl), al_cell ((blk_cell h 1).trans rfl), al_cell ((blk_cell h 2).trans rfl), al_cell ((blk_cell h 3).trans rfl)⟩
theorem bx5 {w : World} {g : Nat} {t : TypeId} {v0 v1 v2 v3 v4 : Value} (h : w.heap[g]? = some (.cells #[v0, v1, v2, v3, v4] t (0, 0))) : w.cell? ⟨g, 0, none⟩ = some v0 ∧ w.cell? ⟨g, 1, none⟩ = some v1 ∧ w.cell? ⟨g, 2, none⟩ = some v2 ∧ w.cell? ⟨g, 3, none⟩ = some v3 ∧ w.cell? ⟨g, 4, none⟩ = some v4 := ⟨(blk_cell h 0).trans rfl, (blk_cell h 1).trans rfl, (blk_cell h 2).trans rfl, (blk_cell h 3).trans rfl, (blk_cell h 4).trans rfl⟩
theorem bx5a {w : World} {g : Nat} {t : TypeId} {v0 v1 v2 v3 v4 : Value} (h : w.heap[g]? = some (.cells #[v0, v1, v2, v3, v4] t (0, 0))) : (∀ o, (w.alloc o).cell? ⟨g, 0, none⟩ = some v0) ∧ (∀ o, (w.alloc o).cell? ⟨g, 1, none⟩ = some v1) ∧ (∀ o, (w.alloc o).cell? ⟨g, 2, none⟩ = some v2) ∧ (∀ o, (w.alloc o).cell? ⟨g, 3, none⟩ = some v3) ∧ (∀ o, (w.alloc o).cell? ⟨g, 4, none⟩ = some v4) := ⟨al_cell ((blk_cell h 0).trans rfl), al_cell ((blk_cell h 1).trans rfl), al_cell ((blk_cell h 2).trans rfl), al_cell ((blk_cell h 3).trans rfl), al_cell ((blk_cell h 4).trans rfl)⟩
theorem bx6 {w : World} {g : Nat} {t : TypeId} {v0 v1 v2 v3 v4 v5 : Value} (h : w.heap[g]? = some (.cells #[v0, v1, v2, v3, v4, v5] t (0, 0))) : w.cell? ⟨g, 0, none⟩ = some v0 ∧ w.cell? ⟨g, 1, none⟩ = some v1 ∧ w.cell? ⟨g, 2, none⟩ = some v2 ∧ w.cell? ⟨g, 3, none⟩ = some v3 ∧ w.cell? ⟨g, 4, none⟩ = some v4 ∧ w.cell? ⟨g, 5, none⟩ = some v5 := ⟨(blk_cell h 0).trans rfl, (blk_cell h 1).trans rfl, (blk_cell h 2).trans rfl, (blk_cell h 3).trans rfl, (blk_cell h 4).trans rfl, (blk_cell h 5).trans rfl⟩
theorem bx6a {w : World} {g : Nat} {t : TypeId} {v0 v1 v2 v3 v4 v5 : Value} (h : w.heap[g]? = some (.cells #[v0, v1, v2, v3, v4, v5] t (0, 0))) : (∀ o, (w.alloc o).cell? ⟨g, 0, none⟩ = some v0) ∧ (∀ o, (w.alloc o).cell? ⟨g, 1, none⟩ = some v1) ∧ (∀ o, (w.alloc o).cell? ⟨g, 2, none⟩ = some v2) ∧ (∀ o, (w.alloc o).cell? ⟨g, 3, none⟩ = some v3) ∧ (∀ o, (w.alloc o).cell? ⟨g, 4, none⟩ = some v4) ∧ (∀ o, (w.alloc o).cell? ⟨g, 5, none⟩ = some v5) := ⟨al_cell ((blk_cell h 0).trans rfl), al_cell ((blk_cell h 1).trans rfl), al_cell ((blk_cell h 2).trans rfl), al_cell ((blk_cell h 3).trans rfl), al_cell ((blk_cell h 4).trans rfl), al_cell ((blk_cell h 5).trans rfl)⟩
theorem bx7 {w : World} {g : Nat} {t : TypeId} {v0 v1 v2 v3 v4 v5 v6 : Value} (h : w.heap[g]? = some (.cells #[v0, v1, v2, v3, v4, v5, v6] t (0, 0))) : w.cell? ⟨g, 0, none⟩ = some v0 ∧ w.cell? ⟨g, 1, none⟩ = some v1 ∧ w.cell? ⟨g, 2, none⟩ = some v2 ∧ w.cell? ⟨g, 3, none⟩ = some v3 ∧ w.cell? ⟨g, 4, none⟩ = some v4 ∧ w.cell? ⟨g, 5, none⟩ = some v5 ∧ w.cell? ⟨g, 6, none⟩ = some v6 := ⟨(blk_cell h 0).trans rfl, (blk_cell h 1).trans rfl, (blk_cell h 2).trans rfl, (blk_cell h 3).trans rfl, (blk_cell h 4).trans rfl, (blk_cell h 5).trans rfl, (blk_cell h 6).trans rfl⟩
theorem bx8 {w : World} {g : Nat} {t : TypeId} {v0 v1 v2 v3 v4 v5 v6 v7 : Value} (h : w.heap[g]? = some (.cells #[v0, v1, v2, v3, v4, v5, v6, v7] t (0, 0))) : w.cell? ⟨g, 0, none⟩ = some v0 ∧ w.cell? ⟨g, 1, none⟩ = some v1 ∧ w.cell? ⟨g, 2, none⟩ = some v2 ∧ w.cell? ⟨g, 3, none⟩ = some v3 ∧ w.cell? ⟨g, 4, none⟩ = some v4 ∧ w.cell? ⟨g, 5, none⟩ = some v5 ∧ w.cell? ⟨g, 6, none⟩ = some v6 ∧ w.cell? ⟨g, 7, none⟩ = some v7 := ⟨(blk_cell h 0).trans rfl, (blk_cell h 1).trans rfl, (blk_cell h 2).trans rfl, (blk_cell h 3).trans rfl, (blk_cell h 4).trans rfl, (blk_cell h 5).trans rfl, (blk_cell h 6).trans rfl, (blk_cell h 7).trans rfl⟩
theorem bx9 {w : World} {g : Nat} {t : TypeId} {v0 v1 v2 v3 v4 v5 v6 v7 v8 : Value} (h : w.heap[g]? = some (.cells #[v0, v1, v2, v3, v4, v5, v6, v7, v8] t (0, 0))) : w.cell? ⟨g, 0, none⟩ = some v0 ∧ w.cell? ⟨g, 1, none⟩ = some v1 ∧ w.cell? ⟨g, 2, none⟩ = some v2 ∧ w.cell? ⟨g, 3, none⟩ = some v3 ∧ w.cell? ⟨g, 4, none⟩ = some v4 ∧ w.cell? ⟨g, 5, none⟩ = some v5 ∧ w.cell? ⟨g, 6, none⟩ = some v6 ∧ w.cell? ⟨g, 7, none⟩ = some v7 ∧ w.cell? ⟨g, 8, none⟩ = some v8 := ⟨(blk_cell h 0).trans rfl, (blk_cell h 1).trans rfl, (blk_cell h 2).trans rfl, (blk_cell h 3).trans rfl, (blk_cell h 4).trans rfl, (blk_cell h 5).trans rfl, (blk_cell h 6).trans rfl, (blk_cell h 7).trans rfl, (blk_cell h 8).trans rfl⟩
theorem blk_al {w : World} {g : Nat} {o : Obj} (h : w.heap[g]? = some o) (o2 : Obj) : (w.alloc o2).heap[g]? = some o := blk_below h bl1
end Go.Proofs.YtmngaagojkihbaaGreat.FTop
namespace Go.Proofs.YtmngaagojkihbaaGreatW.PrintLast
open Go.RowKit Go.Proofs.YtmngaagojkihbaaGreatW.PrintWords
set_option linter.unusedVariables false
def lightO : Op → Bool
  | .move _ | .assign _ | .pick _ _ _ | .build _ _ | .load _ _ | .nilCheck _ | .binOp _ _ _ _ _ | .unOp _ _ _ | .convert _ _ _ | .makeFunc _ _ _ | .slice _ _ _ _ _ | .fieldAddr _ _ _ | .field _ _ _ | .indexAddr _ _ _ | .index _ _ _ | .extract _ _ => true
  | .call c => (match c.callee with | .builtin b => b == .len || b == .cap || b == .max || b == .min | _ => false)
  | _ => false
def nextI (T : List (List Nat × List Nat)) (ops : List Oper) (l : List Bool) : Option Nat :=
  match (List.range T.length).find? (fun i => readyAt T l i && freeT T l i && (match ops[i]? with | some o => lightO o.op | none => false)) with
  | some i => some i
  | none => (List.range T.length).find? (fun i => readyAt T l i && freeT T l i && (match ops[i]? with | some o => o.guard.isSome | none => false))
def heavyI (T : List (List Nat × List Nat)) (l : List Bool) : Option Nat := (List.range T.length).find? (readyAt T l)
section
variable {P : Program} {ops : Array Oper} {Q : Exit → Act → World → Prop} {md : Region.Mode} {S : World → Prop} {ds : List Nat} {T : Bool × List (List Nat × List Nat)} {B : List Nat}
theorem pn_ {i n : Nat} {l' : Array Bool} {oi : Oper} {v : Value} {fuel : Nat} {l : Array Bool} {a a' : Act} {w : World} (hT : Aside0 (rtab md ops = T)) (hx : nextI T.2 ops.toList l.toList = some i := by exact rfl)
    (hl : l.setIfInBounds i true = l' := by (simp only [sbA, sbB, sbC]; rfl))
    (hi : ops[i]? = some oi := by exact rfl) (hN : oi.dst = some n := by exact rfl) (hc : anyT T l.toList l'.toList i = true := by kernel_rfl)
    (hQ : ∀ c a w, Q (.panic c) (a.put oi.dst v) w → Q (.panic c) a w := by exact fun _ _ _ h => h)
    (hy : Yields P ops oi v a := by (refine Or.inl ⟨by rfl, ?_⟩; intro w'; go_simp; with_reducible rfl))
    (ha : a.put (some n) v = a' := by (simp only [Act.put, sbA, sbB, sbC, i64_w, i32_w]; rfl))
    (h : wpAnyLast P md ops Q S ds fuel l' a' w) : wpAnyLast P md ops Q S ds (fuel + 1) l a w :=
  pure_ l' hi hN (any_of hT.out hc) hQ hy ha h
theorem zn_ {i n : Nat} {l' : Array Bool} {oi : Oper} {fuel : Nat} {l : Array Bool} {a a' : Act} {w : World} (hT : Aside0 (rtab md ops = T)) (hx : nextI T.2 ops.toList l.toList = some i := by exact rfl)
    (hl : l.setIfInBounds i true = l' := by (simp only [sbA, sbB, sbC]; rfl))
    (hi : ops[i]? = some oi := by exact rfl) (hN : oi.dst = some n := by exact rfl) (hc : anyT T l.toList l'.toList i = true := by kernel_rfl)
    (hQ : ∀ c a w, Q (.panic c) (a.put oi.dst undef) w → Q (.panic c) a w := by exact fun _ _ _ h => h)
    (hy : Yields P ops oi undef a := by exact Or.inr ⟨by rfl, rfl⟩)
    (ha : a.put (some n) undef = a' := by (simp only [Act.put, sbA, sbB, sbC, i64_w, i32_w]; rfl))
    (h : wpAnyLast P md ops Q S ds fuel l' a' w) : wpAnyLast P md ops Q S ds (fuel + 1) l a w :=
  pure_ l' hi hN (any_of hT.out hc) hQ hy ha h
theorem tn_ {i n : Nat} {l' : Array Bool} {oi : Oper} {v : Value} {fuel : Nat} {l : Array Bool} {a a' : Act} {w : World} (hT : Aside0 (rtab md ops = T)) (hB : Aside0 (waitsOk T.2 B = true)) (hS : S w) (hx : nextI T.2 ops.toList l.toList = some i := by exact rfl)
    (hl : l.setIfInBounds i true = l' := by (simp only [sbA, sbB, sbC]; rfl))
    (hi : ops[i]? = some oi := by exact rfl) (hN : oi.dst = some n := by exact rfl) (hc : takeW T B ds l.toList l'.toList i = true := by kernel_rfl)
    (hQ : ∀ c a w, Q (.panic c) (a.put oi.dst v) w → Q (.panic c) a w := by exact fun _ _ _ h => h)
    (hy : YieldsIf P ops S oi v a := by (refine Or.inl ⟨by rfl, ?_⟩; intro w' hSw; (try dsimp only at hSw); go_simp; with_reducible rfl))
    (ha : a.put (some n) v = a' := by (simp only [Act.put, sbA, sbB, sbC, i64_w, i32_w]; rfl))
    (h : wpAnyLast P md ops Q S ds fuel l' a' w) : wpAnyLast P md ops Q S ds (fuel + 1) l a w :=
  take_ l' hi hN (take_ofW hT.out hB.out hc) hQ hy hS ha h
theorem on_ {i : Nat} {N : Option Tmp} {l' : Array Bool} {oi : Oper} {fuel : Nat} {l : Array Bool} {a : Act} {w : World} (hT : Aside0 (rtab md ops = T)) (hx : heavyI T.2 l.toList = some i := by exact rfl)
    (hl : l.setIfInBounds i true = l' := by (simp only [sbA, sbB, sbC]; rfl))
    (hi : ops[i]? = some oi := by exact rfl) (hN : oi.dst = N := by exact rfl) (hc : (readyT T.2 l.toList == [i] && l.toList.set i true == l'.toList) = true := by kernel_rfl) (hd : i ∉ ds := by decide)
    (h : ∀ K : Act → World → Prop, Shut (∀ a' w', S w' → (S w' → wpAnyLast P md ops Q S ds fuel l' a' w') → K a' w') → if Region.wanted oi (yielded ops a.tmps) = true then Oper.wp P oi a w K Q else K (a.put N undef) w) :
    wpAnyLast P md ops Q S ds (fuel + 1) l a w :=
  one_ l' hi hN (one_of hT.out hc) hd h
theorem ln_ {i : Nat} {N : Option Tmp} {l' : Array Bool} {oi : Oper} {fuel : Nat} {l : Array Bool} {a : Act} {w : World} (hT : Aside0 (rtab md ops = T)) (hx : heavyI T.2 l.toList = some i := by exact rfl)
    (hl : l.setIfInBounds i true = l' := by (simp only [sbA, sbB, sbC]; rfl))
    (hi : ops[i]? = some oi := by exact rfl) (hN : oi.dst = N := by exact rfl) (hc : (readyT T.2 l.toList == [i] && l.toList.set i true == l'.toList) = true := by kernel_rfl) (hd : i ∈ ds := by decide)
    (h : ∀ K : Act → World → Prop, Shut (∀ a' w', wpAnyLast P md ops Q S ds fuel l' a' w' → K a' w') → if Region.wanted oi (yielded ops a.tmps) = true then Oper.wp P oi a w K Q else K (a.put N undef) w) :
    wpAnyLast P md ops Q S ds (fuel + 1) l a w :=
  last_ l' hi hN (one_of hT.out hc) hd h
theorem dn_ {l : Array Bool} {a : Act} {w : World} {n : Nat} (hT : Aside0 (rtab md ops = T)) (hc : (readyT T.2 l.toList == []) = true := by kernel_rfl) (h : Q .normal a w) : wpAnyLast P md ops Q S ds n l a w := done_ (done_of hT.out hc) h
theorem cn_ {oi : Oper} {n : Tmp} {a : Act} {w : World} {K : Act → World → Prop} {f : FuncId} {args : Array Value} {R : Value → World → Prop} (hc : Calls P f args w fun e w' => ∃ v, e = .returned v ∧ R v w')
    (hw : Region.wanted oi (yielded ops a.tmps) = true := by rfl) (hN : oi.dst = some n := by rfl) (hrun : (execOp a.eval oi).run P w = .ok (.enter f args) w := by (go_simp; done))
    (h : ∀ v w', R v w' → K (a.put (some n) v) w') : if Region.wanted oi (yielded ops a.tmps) = true then Oper.wp P oi a w K Q else K (a.put (some n) undef) w :=
  call_ f args hw hN hrun (hc.mono fun e w' ⟨v, he, hR⟩ => ⟨v, he, h v w' hR⟩)
theorem oc_ {i n : Nat} {l' : Array Bool} {oi : Oper} {fuel : Nat} {l : Array Bool} {a a' : Act} {w : World} {f : FuncId} {args : Array Value} {r : Value} (hT : Aside0 (rtab md ops = T)) (hcon : Calls P f args w fun e w' => e = .returned r ∧ Below w.heap.size w w')
    (hx : heavyI T.2 l.toList = some i := by exact rfl) (hl : l.setIfInBounds i true = l' := by (simp only [sbA, sbB, sbC]; rfl))
    (hi : ops[i]? = some oi := by exact rfl) (hN : oi.dst = some n := by exact rfl) (hc : (readyT T.2 l.toList == [i] && l.toList.set i true == l'.toList) = true := by kernel_rfl) (hd : i ∉ ds := by decide)
    (hw : Region.wanted oi (yielded ops a.tmps) = true := by rfl) (hrun : (execOp a.eval oi).run P w = .ok (.enter f args) w := by (go_simp; done))
    (ha : a.put (some n) r = a' := by (simp only [Act.put, sbA, sbB, sbC, i64_w, i32_w]; rfl))
    (hS : ∀ w', Below w.heap.size w w' → S w') (h : ∀ w', Below w.heap.size w w' → S w' → wpAnyLast P md ops Q S ds fuel l' a' w') : wpAnyLast P md ops Q S ds (fuel + 1) l a w := by
  refine one_ l' hi hN (one_of hT.out hc) hd (fun K hK => ?_)
  refine call_ f args hw hN hrun (hcon.mono ?_)
  rintro e w' ⟨rfl, hb⟩
  refine ⟨_, rfl, hK.out _ _ (hS w' hb) (fun hh => ?_)⟩
  rw [ha]
  exact h w' hb hh
end
theorem st_ {P : Program} {ops : Array Oper} {Q : Exit → Act → World → Prop} {T : Bool × List (List Nat × List Nat)} {B : List Nat} {id : Nat} {a : Act} {w : World} {l : Array Bool} (n : Nat) (S : World → Prop) (ds : List Nat) (hT : rtab .any ops = T) (hB : waitsOk T.2 B = true) (hS : S w.drew)
    (hm : P.follows .mixedOrders = true := by kernel_rfl) (hn : ops.size = n := by exact rfl)
    (hl : Array.replicate n false = l := by (simp only [Array.replicate_succ, Array.replicate_zero, List.push_toArray, List.nil_append, List.cons_append]; rfl))
    (h : Aside0 (rtab .any ops = T) → Aside0 (waitsOk T.2 B = true) → S w.drew → wpAnyLast P .any ops Q S ds n l a w.drew) : (Code.region id ops true).wp P Q a w :=
  start_ l hm hn hl hS (h ⟨hT⟩ ⟨hB⟩)
end Go.Proofs.YtmngaagojkihbaaGreatW.PrintLast
namespace Go.Proofs.YtmngaagojkihbaaGreat.FTop
open Go.RowKit Go.Proofs.YtmngaagojkihbaaGreatW.PrintWords Go.Proofs.YtmngaagojkihbaaGreatW.PrintLast Go.Proofs.YtmngaagojkihbaaGreatW.PrintMore
set_option linter.unusedVariables false
abbrev RI (w : World) (base : Nat) (v : Value) (xs : List Int) : Prop := (Kd.int .i64).R 3 w base (fun _ => True) v xs
abbrev RetI (n : Nat) (args : Array Value) (w : World) (r : List Int) : Prop := Calls Tryz.prog n args w fun e w' => ∃ v, e = .returned v ∧ RI w' w.heap.size v r ∧ Below w.heap.size w w'
theorem appI {b : Nat} {ops : Array Oper} {rest : List Oper} {o : Oper} {a : Act} {Q : Exit → Act → World → Prop} {w0 W : World} {s x : Operand} {v : Value} {xs : List Int} {p : Int} (HO : RI W w0.heap.size v xs) (HB : Below w0.heap.size w0 W) (hl : xs.length ≤ 1000000)
    (hgd : o.guard = none := by rfl) (ho : o.op = .call { callee := .builtin .append, args := #[s, x], argTypes := #[33, 33] } := by rfl) (hs : a.eval s = v := by rfl) (hx : a.eval x = .slice (some ⟨b, 0, none⟩) 1 1 := by rfl) (hbW : b = W.heap.size := by first | rfl | (simp only [World.alloc, Array.size_push]))
    (h : ∀ v1 w1, RI w1 w0.heap.size v1 (xs ++ [p]) → Below w0.heap.size w0 w1 → wpList Tryz.prog ops Q rest (a.put o.dst v1) w1) : wpList Tryz.prog ops Q (o :: rest) a (W.alloc (.cells #[.int .i64 p] 3)) :=
  by subst hbW; exact (Kd.R_append (Kd.int .i64) w0.heap.size hgd s x 33 3 (.int .i64 0) 8 ho Tryz.underlying33 (by kernel_rfl) rfl (by decide) (by decide) v xs p [.int .i64 p] (fun _ => True) (fun _ => False) hs hx (by first | rfl | exact ⟨rfl⟩) (fun k hk => hk.elim) (fun _ _ => trivial) HO HB HB.size (by omega) (fun v1 w1 h1 h2 _ _ => h v1 w1 h1 h2))
theorem appRI_step {ops : Array Oper} {o : Oper} {a : Act} {Q : Exit → Act → World → Prop} {Kc : Act → World → Prop} {w0 W : World} {s x : Operand} {v : Value} {xs ys : List Int} {A : Option Addr} {m c : Nat} (HO : RI W w0.heap.size v xs) (HR : Kd.C (Kd.int .i64) W A m ys) (HB : Below w0.heap.size w0 W) (hl : xs.length + m ≤ 1000000)
    (hw : Region.wanted o (yielded ops a.tmps) = true := by rfl) (ho : o.op = .call { callee := .builtin .append, args := #[s, x], argTypes := #[33, 33] } := by rfl) (hs : a.eval s = v := by rfl) (hx : a.eval x = .slice A m c := by rfl)
    (h : ∀ v1 w1, RI w1 w0.heap.size v1 (xs ++ ys) → Below w0.heap.size w0 w1 → Kc (a.put o.dst v1) w1) : if Region.wanted o (yielded ops a.tmps) = true then Oper.wp Tryz.prog o a W Kc Q else Kc (a.put o.dst undef) W :=
  Kd.R_append_rows_step (Kd.int .i64) (Rr := (Kd.int .i64).K W) w0.heap.size hw s x 33 3 (.int .i64 0) 8 ho Tryz.underlying33 (by kernel_rfl) rfl (by decide) (by decide) v xs ys A m c (fun _ => True) (fun _ => False) hs hx HO HR (fun x cs h => h) (fun k hk => hk.elim) (fun _ _ => trivial) HB HB.size (by omega) (fun v1 w1 h1 h2 _ _ => h v1 w1 h1 h2)
structure RowT {α : Type} (d : Kd α) (t e : Nat) (z : Value) (bytes : Nat) : Prop where
  u : Tryz.prog.underlying t = some (.slice e)
  i : (Tryz.prog.info? e).map (fun i => (i.zero, i.size, i.bytes)) = some (some z, d.sz, bytes)
  c : z.cells.size = d.sz
  s : 0 < d.sz
  b : 0 < bytes
  l : bytes ≤ 1000
theorem row3 : RowT (Kd.int .i64) 33 3 (.int .i64 0) 8 := ⟨Tryz.underlying33, by kernel_rfl, rfl, by decide, by decide, by decide⟩
theorem row4 : RowT Kd.bool 77 4 (.bool false) 1 := ⟨Tryz.underlying77, by kernel_rfl, rfl, by decide, by decide, by decide⟩
theorem row182 : RowT k182 78 182 (.agg #[(.int .i64 0), (.int .i64 0), (.int .i64 0), (.int .i64 0), (.int .i64 0), (.bool false)]) 48 := ⟨Tryz.underlying78, by kernel_rfl, rfl, by decide, by decide, by decide⟩
theorem row38 : RowT k38 34 38 (.agg #[(.int .i64 0), (.int .i64 0), (.int .i64 0)]) 24 := ⟨Tryz.underlying34, by kernel_rfl, rfl, by decide, by decide, by decide⟩
theorem row44 : RowT k44 76 44 (.agg #[(.int .i64 0), (.int .i64 0), (.int .i64 0), (.slice none 0 0)]) 48 := ⟨Tryz.underlying76, by kernel_rfl, rfl, by decide, by decide, by decide⟩
theorem row89 : RowT k89 42 89 (.agg #[(.int .i64 0), (.int .i64 0), (.int .i64 0)]) 24 := ⟨Tryz.underlying42, by kernel_rfl, rfl, by decide, by decide, by decide⟩
theorem row85 : RowT k85 62 85 (.agg #[(.int .i64 0), (.int .i64 0)]) 16 := ⟨Tryz.underlying62, by kernel_rfl, rfl, by decide, by decide, by decide⟩
theorem row153 : RowT k153 59 153 (.agg #[(.int .i64 0), (.int .i64 0), (.int .i64 0)]) 24 := ⟨Tryz.underlying59, by kernel_rfl, rfl, by decide, by decide, by decide⟩
theorem row91 : RowT k91 51 91 (.agg #[(.int .i64 0), (.int .i64 0), (.int .i64 0)]) 24 := ⟨Tryz.underlying51, by kernel_rfl, rfl, by decide, by decide, by decide⟩
theorem row87 : RowT k87 50 87 (.agg #[(.int .i64 0), (.int .i64 0), (.slice none 0 0)]) 40 := ⟨Tryz.underlying50, by kernel_rfl, rfl, by decide, by decide, by decide⟩
theorem row80 : RowT k80 63 80 (.agg #[(.slice none 0 0), (.slice none 0 0), (.slice none 0 0), (.slice none 0 0), (.slice none 0 0)]) 120 := ⟨Tryz.underlying63, by kernel_rfl, rfl, by decide, by decide, by decide⟩
theorem row135 : RowT k135 64 135 (.agg #[(.int .i64 0), (.int .i64 0), (.int .i64 0), (.slice none 0 0), (.int .i64 0), (.int .i64 0), (.slice none 0 0), (.int .i64 0), (.int .i64 0)]) 104 := ⟨Tryz.underlying64, by kernel_rfl, rfl, by decide, by decide, by decide⟩
theorem row73 : RowT k73 32 73 (.agg #[(.int .i64 0), (.int .i64 0), (.int .i64 0)]) 24 := ⟨Tryz.underlying32, by kernel_rfl, rfl, by decide, by decide, by decide⟩
section
variable {α : Type} {d : Kd α} {t e bytes base : Nat} {z : Value} {ops : Array Oper} {rest : List Oper} {o : Oper} {a : Act} {Q : Exit → Act → World → Prop} {Kc : Act → World → Prop} {w0 W : World} {s x : Operand} {v : Value} {xs ys : List α} {p : α} {cs : List Value} {ok okp : Nat → Prop} {A : Option Addr} {b m c : Nat}
theorem apN (r : RowT d t e z bytes) (HO : Kd.N d e W base ok v xs) (hp : Kd.FK d W okp p cs) (hokp : ∀ k, okp k → ok k ∧ some k ≠ v.ownBlock) (hfresh : ∀ k, W.heap.size ≤ k → ok k) (HB : Below base w0 W) (hbase : base ≤ W.heap.size) (hl : xs.length ≤ 100000)
    (hgd : o.guard = none := by rfl) (ho : o.op = .call { callee := .builtin .append, args := #[s, x], argTypes := #[t, t] } := by rfl) (hs : a.eval s = v := by rfl) (hx : a.eval x = .slice (some ⟨b, 0, none⟩) 1 1 := by rfl) (hbW : b = W.heap.size := by first | rfl | (simp only [World.alloc, Array.size_push]))
    (h : ∀ v1 w1, Kd.N d e w1 base ok v1 (xs ++ [p]) → Below base w0 w1 → W.grownBy w1 v.ownBlock → (v1.ownBlock = v.ownBlock ∨ ∃ b, v1.ownBlock = some b ∧ W.heap.size ≤ b) → wpList Tryz.prog ops Q rest (a.put o.dst v1) w1) : wpList Tryz.prog ops Q (o :: rest) a (W.alloc (.cells cs.toArray e)) := by
  subst hbW
  exact Kd.N_append d base hgd s x t e z bytes ho r.u r.i r.c r.s r.b v xs p cs ok okp hs hx hp hokp hfresh HO HB hbase (by have := r.l; have h2 := Nat.mul_le_mul (show xs.length + 1 ≤ 100001 by omega) this; omega) h
theorem apN_step {n : Tmp} (r : RowT d t e z bytes) (HO : Kd.N d e W base ok v xs) (hp : Kd.FK d W okp p cs) (hokp : ∀ k, okp k → ok k ∧ some k ≠ v.ownBlock) (hfresh : ∀ k, W.heap.size ≤ k → ok k) (HB : Below base w0 W) (hbase : base ≤ W.heap.size) (hl : xs.length ≤ 100000)
    (hw : Region.wanted o (yielded ops a.tmps) = true := by rfl) (hN : o.dst = some n := by rfl) (ho : o.op = .call { callee := .builtin .append, args := #[s, x], argTypes := #[t, t] } := by rfl) (hs : a.eval s = v := by rfl) (hx : a.eval x = .slice (some ⟨b, 0, none⟩) 1 1 := by rfl) (hbW : b = W.heap.size := by first | rfl | (simp only [World.alloc, Array.size_push]))
    (h : ∀ v1 w1, Kd.N d e w1 base ok v1 (xs ++ [p]) → Below base w0 w1 → W.grownBy w1 v.ownBlock → (v1.ownBlock = v.ownBlock ∨ ∃ b, v1.ownBlock = some b ∧ W.heap.size ≤ b) → Kc (a.put (some n) v1) w1) : if Region.wanted o (yielded ops a.tmps) = true then Oper.wp Tryz.prog o a (W.alloc (.cells cs.toArray e)) Kc Q else Kc (a.put (some n) undef) (W.alloc (.cells cs.toArray e)) := by
  subst hbW
  rw [← hN] at h ⊢
  exact Kd.N_append_step d base hw s x t e z bytes ho r.u r.i r.c r.s r.b v xs p cs ok okp hs hx hp hokp hfresh HO HB hbase (by have := r.l; have h2 := Nat.mul_le_mul (show xs.length + 1 ≤ 100001 by omega) this; omega) h
theorem apNR (r : RowT d t e z bytes) (HO : Kd.N d e W base ok v xs) (HR : Kd.F d W okp A m ys) (hokp : ∀ k, okp k → ok k ∧ some k ≠ v.ownBlock) (hfresh : ∀ k, W.heap.size ≤ k → ok k) (HB : Below base w0 W) (hbase : base ≤ W.heap.size) (hl : xs.length + m ≤ 100000)
    (hgd : o.guard = none := by rfl) (ho : o.op = .call { callee := .builtin .append, args := #[s, x], argTypes := #[t, t] } := by rfl) (hs : a.eval s = v := by rfl) (hx : a.eval x = .slice A m c := by rfl)
    (h : ∀ v1 w1, Kd.N d e w1 base ok v1 (xs ++ ys) → Below base w0 w1 → W.grownBy w1 v.ownBlock → (v1.ownBlock = v.ownBlock ∨ ∃ b, v1.ownBlock = some b ∧ W.heap.size ≤ b) → wpList Tryz.prog ops Q rest (a.put o.dst v1) w1) : wpList Tryz.prog ops Q (o :: rest) a W :=
  Kd.N_append_rows d base hgd s x t e z bytes ho r.u r.i r.c r.s r.b v xs ys A m c ok okp hs hx HO HR hokp hfresh HB hbase (by have := r.l; have h2 := Nat.mul_le_mul hl this; omega) h
theorem apNR_step {n : Tmp} (r : RowT d t e z bytes) (HO : Kd.N d e W base ok v xs) (HR : Kd.F d W okp A m ys) (hokp : ∀ k, okp k → ok k ∧ some k ≠ v.ownBlock) (hfresh : ∀ k, W.heap.size ≤ k → ok k) (HB : Below base w0 W) (hbase : base ≤ W.heap.size) (hl : xs.length + m ≤ 100000)
    (hw : Region.wanted o (yielded ops a.tmps) = true := by rfl) (hN : o.dst = some n := by rfl) (ho : o.op = .call { callee := .builtin .append, args := #[s, x], argTypes := #[t, t] } := by rfl) (hs : a.eval s = v := by rfl) (hx : a.eval x = .slice A m c := by rfl)
    (h : ∀ v1 w1, Kd.N d e w1 base ok v1 (xs ++ ys) → Below base w0 w1 → W.grownBy w1 v.ownBlock → (v1.ownBlock = v.ownBlock ∨ ∃ b, v1.ownBlock = some b ∧ W.heap.size ≤ b) → Kc (a.put (some n) v1) w1) : if Region.wanted o (yielded ops a.tmps) = true then Oper.wp Tryz.prog o a W Kc Q else Kc (a.put (some n) undef) W := by
  rw [← hN] at h ⊢
  exact Kd.N_append_rows_step d base hw s x t e z bytes ho r.u r.i r.c r.s r.b v xs ys A m c ok okp hs hx HO HR hokp hfresh HB hbase (by have := r.l; have h2 := Nat.mul_le_mul hl this; omega) h
theorem stB {g o' e' ty : Nat} {cur : Array Value} {u : Value} {pp : Operand} {seg cs' : List Value} (hB : W.heap[g]? = some (.cells cur e' (0, 0))) (HB : Below base w0 W) (hb : base ≤ g)
    (ho : o.op = .store ty pp x := by rfl) (hgd : o.guard = none := by rfl) (hN : o.dst = none := by rfl) (hp : a.eval pp = .pointer (some ⟨g, o', none⟩) := by rfl) (hx : a.eval x = u := by rfl) (hu : u.cells.toList = seg := by rfl) (ht : (Tryz.prog.info? ty).map (·.size) = some seg.length := by kernel_rfl)
    (h1 : seg.all Value.oneCell' = true := by rfl) (hfit : o' + seg.length ≤ cur.size := by first | decide | simp) (hc : cur.toList.take o' ++ seg ++ cur.toList.drop (o' + seg.length) = cs' := by rfl)
    (h : ∀ w1, w1.heap[g]? = some (.cells cs'.toArray e' (0, 0)) → Below base w0 w1 → W.grownBy w1 (some g) → wpList Tryz.prog ops Q rest a w1) : wpList Tryz.prog ops Q (o :: rest) a W := by
  obtain ⟨cur', h3, h4, h5⟩ := setCells_row seg o' W cur hB hfit
  obtain ⟨s1, s2, s3, s4⟩ := setCells_same g seg o' W
  have hg : W.grownBy (W.setCells g o' seg) (some g) := ⟨s1, s2, s3, Nat.le_of_eq s4.symm, fun k hk hne => setCells_far seg o' k (fun he => hne (by rw [he]))⟩
  have hbb : Below base w0 (W.setCells g o' seg) := HB.trans ⟨s1, s2, s3, Nat.le_of_eq s4.symm, fun k hk => setCells_far seg o' k (by omega)⟩
  refine wpList_plain hgd fun K hK => ?_
  have hrun := run_store_run (P := Tryz.prog) ty u seg hB hu ht hfit (fun q hq => List.all_eq_true.1 h1 q hq)
  unfold Oper.wp execOp
  simp only [ho, hp, hx, Sem.run_bind, Sem.run_pure, Result.andThen_ok, hrun]
  show K (a.put o.dst undef) _
  rw [hN]
  exact hK _ _ (h _ (by rw [← hc, ← h5]; exact h3) hbb hg)
theorem stB_step {g o' e' ty : Nat} {cur : Array Value} {u : Value} {pp : Operand} {seg cs' : List Value} (hB : W.heap[g]? = some (.cells cur e' (0, 0))) (HB : Below base w0 W) (hb : base ≤ g)
    (hw : Region.wanted o (yielded ops a.tmps) = true := by rfl) (ho : o.op = .store ty pp x := by rfl) (hN : o.dst = none := by rfl) (hp : a.eval pp = .pointer (some ⟨g, o', none⟩) := by rfl) (hx : a.eval x = u := by rfl) (hu : u.cells.toList = seg := by rfl) (ht : (Tryz.prog.info? ty).map (·.size) = some seg.length := by kernel_rfl)
    (h1 : seg.all Value.oneCell' = true := by rfl) (hfit : o' + seg.length ≤ cur.size := by first | decide | simp) (hc : cur.toList.take o' ++ seg ++ cur.toList.drop (o' + seg.length) = cs' := by rfl)
    (h : ∀ w1, w1.heap[g]? = some (.cells cs'.toArray e' (0, 0)) → Below base w0 w1 → W.grownBy w1 (some g) → Kc a w1) : if Region.wanted o (yielded ops a.tmps) = true then Oper.wp Tryz.prog o a W Kc Q else Kc (a.put none undef) W := by
  obtain ⟨cur', h3, h4, h5⟩ := setCells_row seg o' W cur hB hfit
  obtain ⟨s1, s2, s3, s4⟩ := setCells_same g seg o' W
  have hg : W.grownBy (W.setCells g o' seg) (some g) := ⟨s1, s2, s3, Nat.le_of_eq s4.symm, fun k hk hne => setCells_far seg o' k (fun he => hne (by rw [he]))⟩
  have hbb : Below base w0 (W.setCells g o' seg) := HB.trans ⟨s1, s2, s3, Nat.le_of_eq s4.symm, fun k hk => setCells_far seg o' k (by omega)⟩
  rw [if_pos hw]
  have hrun := run_store_run (P := Tryz.prog) ty u seg hB hu ht hfit (fun q hq => List.all_eq_true.1 h1 q hq)
  unfold Oper.wp execOp
  simp only [ho, hp, hx, Sem.run_bind, Sem.run_pure, Result.andThen_ok, hrun]
  show Kc (a.put o.dst undef) _
  rw [hN]
  exact h _ (by rw [← hc, ← h5]; exact h3) hbb hg
theorem cutTo (r : RowT d t e z bytes) (A : Option Addr) {n c j : Nat} (hj : j ≤ n) (hc : n ≤ c) : ∀ W : World, (Instr.slice t (.slice A n c) none (some (.int .i64 j)) none).run Tryz.prog W = .ok (.slice A j c) W := by
  obtain ⟨i, hi, hsz⟩ := Option.map_eq_some_iff.1 r.i
  exact cut_to t e .i64 r.u hi A n c j (by omega) (by omega) hc
theorem cutFrom (r : RowT d t e z bytes) (A : Option Addr) {n c j : Nat} (hj : j ≤ n) : ∀ W : World, (Instr.slice t (.slice A n c) (some (.int .i64 j)) none none).run Tryz.prog W = .ok (.slice (if c = j then A else A.map (·.add (j * d.sz))) (n - j) (c - j)) W := by
  obtain ⟨i, hi, hsz⟩ := Option.map_eq_some_iff.1 r.i
  simp only [Prod.mk.injEq] at hsz
  exact cut_from t e .i64 r.u hi d.sz hsz.2.1 A n c j (by omega) (by omega)
theorem alsz {w : World} {o : Obj} : (w.alloc o).heap.size = w.heap.size + 1 := by simp only [World.alloc, Array.size_push]
theorem ne_own {k : Nat} (h : Kd.N d e W base ok v xs) (hk : k < base) : some k ≠ v.ownBlock := fun he => by have := Kd.N_base h k he.symm; omega
theorem F_takeN {m : Nat} (h : Kd.F d W ok A xs.length xs) (hm : m ≤ xs.length) : Kd.F d W ok A m (xs.take m) := by
  have := Kd.F_take h hm; rwa [List.length_take, Nat.min_eq_left hm] at this
theorem F_cutN {m c : Nat} (h : Kd.F d W ok A xs.length xs) (hm : m ≤ xs.length) (hc : xs.length ≤ c) : Kd.F d W ok (if c = m then A else A.map (·.add (m * d.sz))) (xs.length - m) (xs.drop m) := by
  have := Kd.F_cut h hm hc; rwa [List.length_drop] at this
theorem stNI {g n cap i : Nat} {pp : Operand} {xs : List Int} {q : Int} (HO : Kd.N (Kd.int .i64) 3 W base ok (.slice (some ⟨g, 0, none⟩) n cap) xs) (hi : i < n) (HB : Below base w0 W)
    (ho : o.op = .store 3 pp x := by rfl) (hgd : o.guard = none := by rfl) (hN : o.dst = none := by rfl) (hp : a.eval pp = .pointer (some ⟨g, i, none⟩) := by rfl) (hx : a.eval x = .int .i64 q := by rfl)
    (h : ∀ w1, Kd.N (Kd.int .i64) 3 w1 base ok (.slice (some ⟨g, 0, none⟩) n cap) (xs.set i q) → Below base w0 w1 → W.grownBy w1 (some g) → wpList Tryz.prog ops Q rest a w1) : wpList Tryz.prog ops Q (o :: rest) a W := by
  obtain ⟨c, hcl, _, hcc, _⟩ := Kd.N_elem HO (0 : Int) (i : Int) (by omega) (by omega)
  have hcl1 : c.length = 1 := hcl
  refine Kd.N_store (Kd.int .i64) (w0 := w0) base hN hgd 3 pp x ho 3 (i : Int) 0 xs q (.int .i64 q) [.int .i64 q] c ok (fun _ => False) hp ?_ hx rfl (by kernel_rfl) (by simp [Value.oneCell']) HO (by omega) (by omega) hcl hcc (by show 0 + 1 ≤ 1; omega) ?_ (fun k hk => hk.elim) HB (by rw [Int.toNat_natCast]; exact h)
  · rw [Int.toNat_natCast]; show i = i * 1 + 0; omega
  · intro W' _
    have : c.take 0 ++ [Value.int .i64 q] ++ c.drop (0 + [Value.int .i64 q].length) = [Value.int .i64 q] := by
      rw [List.drop_eq_nil_of_le (by simp [hcl1])]; rfl
    rw [this]
    rfl
theorem nm_ {P : Program} {md : Region.Mode} {S : World → Prop} {ds : List Nat} {fuel : Nat} {l : Array Bool} {a a' : Act} {w : World} {ops : Array Oper} {Q : Exit → Act → World → Prop} (h : wpAnyLast P md ops Q S ds fuel l a' w) (ha : a = a' := by (simp only [Act.put, sbA, sbB, sbC, i64_w, i32_w]; rfl)) : wpAnyLast P md ops Q S ds fuel l a w := ha ▸ h
theorem N_empty (W : World) (base : Nat) (ok : Nat → Prop) (e : Nat) (hb : base ≤ W.heap.size) (hok : ok W.heap.size) : Kd.N d e (W.alloc (.cells #[] e)) base ok (.slice (some ⟨W.heap.size, 0, none⟩) 0 0) ([] : List α) := by
  refine ⟨fun k hk => ?_, [], rfl, ?_, fun j x c hx => by simp at hx⟩
  · have : W.heap.size = k := by simpa [Value.ownBlock] using hk
    subst this; exact hok
  · have h2 := World.ownsRow_lit (base := base) (e := e) (size := d.sz) W #[] 0 hb (by simp [maxLen]) (by simp)
    exact ⟨fun _ hk => hk.symm, [], h2, Reps.none _ _⟩
end
end Go.Proofs.YtmngaagojkihbaaGreat.FTop
namespace Go.Proofs.YtmngaagojkihbaaGreat.FTop
open Go.RowKit Go.Proofs.YtmngaagojkihbaaGreatW.PrintWords Go.Proofs.YtmngaagojkihbaaGreatW.PrintLast Go.Proofs.YtmngaagojkihbaaGreatW.PrintMore
attribute [local go_sem] max2_int min2_int max_two min_two
set_option linter.unusedVariables false
set_option linter.unusedSimpArgs false
set_option maxHeartbeats 8000000
set_option maxRecDepth 100000
theorem w64 {n : Int} (h1 : -9223372036854775808 ≤ n) (h2 : n ≤ 9223372036854775807) : wrap64 n = n := by unfold wrap64; omega
theorem rb {a b : Bool} (h : a = true ↔ b = true) : Ending.returned (.bool a) = .returned (.bool b) := by rw [Bool.eq_iff_iff.2 h]
def okN (n : Int) : Bool := decide (-4611686018427387903 ≤ n ∧ n ≤ 4611686018427387903)
theorem arith_may.calls (A : Option Addr) (c : Nat) (l : List Int) (w : World) (h : Kd.C (Kd.int .i64) w A l.length l) : Ret 127 #[.slice A l.length c] w (.bool (l.all okN)) := by
  have H := Aside0.mk h
  have hl := h.2.1
  clear h
  go_enter Tryz.func127, Tryz.ntmps127
  go_wp2
  go_loopg [7] l.length (fun k v7 wr => ∃ i : Nat, i + k = l.length ∧ v7 = .int .i64 i ∧ (l.take i).all okN = true ∧ w = wr)
  case atStart => exact ⟨0, by omega, rfl, rfl, rfl⟩
  case round =>
    obtain ⟨i, hi, rfl, ha, rfl⟩ := hrel
    have HA := Aside0.mk ha
    clear ha
    by_cases c : i < l.length
    · obtain ⟨ad, t, rfl, ht, h0⟩ := elI H.out i c
      have e : (l.take (i + 1)).all okN = okN t := by rw [List.take_succ_eq_append_getElem c, List.all_append, HA.out, ht.out]; simp
      have e2 : l.all okN = ((l.take (i + 1)).all okN && (l.drop (i + 1)).all okN) := by rw [← List.all_append, List.take_append_drop]
      rw [e] at e2
      have E := Aside0.mk e; have E2 := Aside0.mk e2
      clear e e2
      go_wp2
      all_goals first
        | (go_ret; exact ⟨by rw [E2.out, show okN t = false from decide_eq_false (by omega)]; rfl, bl0⟩)
        | (go_roundg (gk - 1)
           case measure => omega
           case rel => exact ⟨i + 1, by omega, by go_num, by rw [E.out]; exact decide_eq_true (by omega), rfl⟩)
    · have : i = l.length := by omega
      subst this
      go_wp2
      go_ret
      have hh := HA.out
      rw [List.take_length] at hh
      exact ⟨by rw [hh]; rfl, bl0⟩
theorem gcd_step (x y : Int) (hx : 0 ≤ x) (hy : 0 < y) : Int.gcd y (x % y) = Int.gcd x y := by
  obtain ⟨m, rfl⟩ : ∃ m : Nat, x = m := ⟨x.toNat, by omega⟩
  obtain ⟨n, rfl⟩ : ∃ n : Nat, y = n := ⟨y.toNat, by omega⟩
  rw [← Int.natCast_emod, Int.gcd_natCast_natCast, Int.gcd_natCast_natCast, Nat.gcd_comm n, ← Nat.gcd_rec, Nat.gcd_comm]
theorem arith_Gcd.calls (a b : Int) (w : World) (ha : 0 ≤ a) (ha2 : a ≤ 1000000) (hb : 0 ≤ b) (hb2 : b ≤ 1000000) : Ret 122 #[.int .i64 a, .int .i64 b] w (.tuple #[.int .i64 (Int.gcd a b : Nat), .int .i64 0]) := by
  have hm : [a, b].all okN = true := by simp [okN]; omega
  go_enter Tryz.func122, Tryz.ntmps122
  go_wp2_with (go_at_call 127; refine (arith_may.calls _ _ [a, b] _ (litC [a, b] (blk_new _ _) (by simp))).mono ?_; rintro e w2 ⟨rfl, hbb⟩)
  go_loopg [0, 1] b.toNat (fun k v0 v1 wr => ∃ x y : Int, 0 ≤ x ∧ x ≤ 1000000 ∧ 0 ≤ y ∧ y ≤ 1000000 ∧ y.toNat = k ∧ v0 = .int .i64 x ∧ v1 = .int .i64 y ∧ Int.gcd x y = Int.gcd a b ∧ Below w.heap.size w wr)
  case atStart => exact ⟨a, b, ha, ha2, hb, hb2, rfl, rfl, rfl, rfl, below_step bl1 hbb⟩
  case round =>
    obtain ⟨x, y, hx, hx2, hy, hy2, hk, rfl, rfl, hg, hbr⟩ := hrel
    have HG := Aside0.mk hg; have HK := Aside0.mk hk
    clear hg hk hm
    by_cases c : 0 < y
    · go_wp2
      go_quiet (fail)
      have h1 := Int.emod_nonneg x (show y ≠ 0 by omega)
      have h2 := Int.emod_lt_of_pos x c
      go_wp2
      go_roundg (x % y).toNat
      case measure => have := HK.out; omega
      case rel => exact ⟨y, x % y, by omega, by omega, by omega, by omega, rfl, rfl, rfl, by rw [← HG.out]; exact gcd_step x y hx c, pw_below_drewN hbr _⟩
    · have : y = 0 := by omega
      subst this
      go_wp2
      go_ret2
      exact ⟨by have hh := HG.out; rw [Int.gcd_zero_right] at hh; rw [← hh, Int.natAbs_of_nonneg hx]; rfl, hbr⟩
theorem arith_Mul.calls (a b : Int) (w : World) (ha : 0 ≤ a) (ha2 : a ≤ 1000000) (hb : 0 ≤ b) (hb2 : b ≤ 1000000) : Ret 123 #[.int .i64 a, .int .i64 b] w (.tuple #[.int .i64 (a * b), .int .i64 0]) := by
  have hm : [a, b].all okN = true := by simp [okN]; omega
  by_cases c1 : a = 0
  · subst c1
    rw [Int.zero_mul]
    go_enter Tryz.func123, Tryz.ntmps123
    go_wp2_with (go_at_call 127; refine (arith_may.calls _ _ [0, b] _ (litC [0, b] (blk_new _ _) (by simp))).mono ?_; rintro e w2 ⟨rfl, hbb⟩)
    go_ret2
    exact ⟨rfl, below_step bl1 hbb⟩
  by_cases c2 : b = 0
  · subst c2
    rw [Int.mul_zero]
    have c1b : (a == 0) = false := by simpa using c1
    go_enter Tryz.func123, Tryz.ntmps123
    go_wp2_with (go_at_call 127; refine (arith_may.calls _ _ [a, 0] _ (litC [a, 0] (blk_new _ _) (by simp))).mono ?_; rintro e w2 ⟨rfl, hbb⟩)
    go_ret2
    exact ⟨rfl, below_step bl1 hbb⟩
  have c1b : (a == 0) = false := by simpa using c1
  have c2b : (b == 0) = false := by simpa using c2
  have hp2 : 0 ≤ a * b ∧ a * b ≤ 1000000000000 := ⟨Int.mul_nonneg ha hb, by have := Int.mul_le_mul ha2 hb2 hb (by omega); omega⟩
  have HM := Aside0.mk hp2
  have e1 : (if a < wrap64 (-a) then wrap64 (-a) else a) = a := by rw [w64 (by omega) (by omega), if_neg (by omega)]
  have e2 : (if b < wrap64 (-b) then wrap64 (-b) else b) = b := by rw [w64 (by omega) (by omega), if_neg (by omega)]
  have hq : decide (wrap64 (Int.tdiv 4611686018427387903 b) < a) = false := by
    have h1 := Int.le_ediv_of_mul_le (show 0 < b by omega) (show a * b ≤ 4611686018427387903 by omega)
    have h2 := Int.ediv_le_self b (show (0 : Int) ≤ 4611686018427387903 by omega)
    rw [Int.tdiv_eq_ediv_of_nonneg (by omega)]
    generalize (4611686018427387903 : Int) / b = q at h1 h2
    rw [w64 (by omega) (by omega)]
    simp; omega
  clear hp2 c1 ha hb ha2 hb2
  go_enter Tryz.func123, Tryz.ntmps123
  go_wp2_with (go_at_call 127; refine (arith_may.calls _ _ [a, b] _ (litC [a, b] (blk_new _ _) (by simp))).mono ?_; rintro e w2 ⟨rfl, hbb⟩)
  go_ret2
  exact ⟨by rw [w64 (n := a * b) (by have := HM.out; omega) (by have := HM.out; omega)]; rfl, below_step bl1 hbb⟩
theorem arith_Add.calls (a b : Int) (w : World) (ha : 0 ≤ a) (ha2 : a ≤ 1000000000000000) (hb : 0 ≤ b) (hb2 : b ≤ 1000000000000000) : Ret 136 #[.int .i64 a, .int .i64 b] w (.tuple #[.int .i64 (a + b), .int .i64 0]) := by
  have hm : [a, b].all okN = true := by simp [okN]; omega
  have hm2 : [a + b].all okN = true := by simp [okN]; omega
  go_enter Tryz.func136, Tryz.ntmps136
  go_wp2_with fail
  refine (arith_may.calls _ _ [a, b] _ (litC [a, b] (blk_new _ _) (by simp))).mono ?_; rintro e w2 ⟨rfl, hbb⟩
  rw [hm]
  clear hm
  go_wp2_with fail
  refine (arith_may.calls _ _ [a + b] _ (litC [a + b] (blk_new _ _) (by simp))).mono ?_; rintro e w3 ⟨rfl, hbb2⟩
  rw [hm2]
  clear hm2
  go_wp2
  go_ret2
  exact ⟨rfl, below_step (below_alloc (below_step bl1 hbb) _) hbb2⟩
theorem arith_Floor.calls (a b : Int) (w : World) (ha : 0 ≤ a) (ha2 : a ≤ 1000000000000000) (hb : 1 ≤ b) (hb2 : b ≤ 1000000000000000) : Ret 148 #[.int .i64 a, .int .i64 b] w (.tuple #[.int .i64 (a / b), .int .i64 0]) := by
  have hm : [a, b].all okN = true := by simp [okN]; omega
  have h1 := Int.emod_nonneg a (show b ≠ 0 by omega)
  go_enter Tryz.func148, Tryz.ntmps148
  go_wp2_with (go_at_call 127; refine (arith_may.calls _ _ [a, b] _ (litC [a, b] (blk_new _ _) (by simp))).mono ?_; rintro e w2 ⟨rfl, hbb⟩)
  go_ret2
  exact ⟨rfl, below_step bl1 hbb⟩
def lcmI (a b : Int) : Int := a / (Int.gcd a b : Nat) * b
theorem arith_Lcm.calls (a b : Int) (w : World) (ha : 1 ≤ a) (ha2 : a ≤ 5000) (hb : 1 ≤ b) (hb2 : b ≤ 5000) : Ret 113 #[.int .i64 a, .int .i64 b] w (.tuple #[.int .i64 (lcmI a b), .int .i64 0]) := by
  have hg : 0 < Int.gcd a b := Int.gcd_pos_of_ne_zero_left _ (by omega)
  unfold lcmI
  generalize hG : (Int.gcd a b : Nat) = g at hg ⊢
  have HG := Aside0.mk hG
  clear hG
  have hd := Int.ediv_le_self (g : Int) (show 0 ≤ a by omega)
  have hd0 := Int.ediv_nonneg (show 0 ≤ a by omega) (show (0 : Int) ≤ g by omega)
  go_enter Tryz.func113, Tryz.ntmps113
  go_wp2_with fail
  refine (arith_Gcd.calls a b _ (by omega) (by omega) (by omega) (by omega)).mono ?_; rintro e w2 ⟨rfl, hbb⟩
  rw [HG.out]
  go_wp2_with fail
  refine (arith_Mul.calls (a / (g : Int)) b _ (by omega) (by omega) (by omega) (by omega)).mono ?_; rintro e w3 ⟨rfl, hb3⟩
  go_wp2
  go_ret2
  exact ⟨rfl, below_step hbb hb3⟩
abbrev vF (f : S85) : Value := .agg #[.int .i64 f.f0, .int .i64 f.f1]
def supR (f : S85) : Bool := decide (1 ≤ f.f1 ∧ f.f1 ≤ f.f0 ∧ f.f0 ≤ 200)
theorem supply_Right.calls (f : S85) (w : World) : Ret 45 #[vF f] w (.bool (supR f)) := by
  have hu := Tryz.underlying85
  go_enter Tryz.func45, Tryz.ntmps45
  go_wp2 <;> go_ret <;> exact ⟨rb (by simp [supR]; omega), bl1⟩
def ownT (t : S44) : Bool := decide (1 ≤ t.f0 ∧ t.f0 ≤ t.f1 ∧ t.f1 ≤ t.f2 ∧ t.f2 ≤ 200 ∧ t.f3.length ≤ 4)
abbrev vT (t : S44) (A : Option Addr) (c : Nat) : Value := .agg #[.int .i64 t.f0, .int .i64 t.f1, .int .i64 t.f2, .slice A t.f3.length c]
abbrev vS (s : S89) : Value := .agg #[.int .i64 s.f0, .int .i64 s.f1, .int .i64 s.f2]
theorem task_own.calls (t : S44) (A : Option Addr) (c : Nat) (w : World) : Ret 110 #[vT t A c] w (.bool (ownT t)) := by
  have hu := Tryz.underlying44
  go_enter Tryz.func110, Tryz.ntmps110
  go_wp2 <;> go_ret <;> exact ⟨rb (by simp [ownT]; omega), bl1⟩
def mayT (c : Int) (s : S89) : Bool := decide (0 ≤ s.f0 ∧ s.f0 < 4 ∧ 0 ≤ s.f1 ∧ s.f1 < c ∧ 1 ≤ s.f2 ∧ s.f2 ≤ c - s.f1)
theorem task_may.calls (t : S44) (A : Option Addr) (c : Nat) (s : S89) (w : World) (h1 : 1 ≤ t.f0) (h2 : t.f0 ≤ 200) : Ret 111 #[vT t A c, vS s] w (.bool (mayT t.f0 s)) := by
  have hu := Tryz.underlying44
  have hu2 := Tryz.underlying89
  go_enter Tryz.func111, Tryz.ntmps111
  go_wp2 <;> go_ret <;> exact ⟨rb (by simp [mayT]; omega), bl2⟩
def fitsT (a b : S89) : Bool := decide (b.f1 ≥ a.f1 + a.f2) || decide (b.f1 ≥ a.f1 ∧ b.f1 + b.f2 ≤ a.f1 + a.f2 ∧ a.f0 ≠ b.f0)
theorem task_fits.calls (a b : S89) (w : World) (h1 : 0 ≤ a.f1) (h2 : a.f1 ≤ 200) (h3 : 0 ≤ a.f2) (h4 : a.f2 ≤ 200) (h5 : 0 ≤ b.f1) (h6 : b.f1 ≤ 200) (h7 : 0 ≤ b.f2) (h8 : b.f2 ≤ 200) : Ret 112 #[vS a, vS b] w (.bool (fitsT a b)) := by
  have hu2 := Tryz.underlying89
  go_enter Tryz.func112, Tryz.ntmps112
  go_wp2 <;> go_ret <;> exact ⟨rb (by simp [fitsT]; omega), bl2⟩
end Go.Proofs.YtmngaagojkihbaaGreat.FTop
