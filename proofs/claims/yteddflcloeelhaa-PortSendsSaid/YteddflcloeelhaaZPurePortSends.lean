/- The statement PortSends over plain data: true. No condition. -/
import Derived.Test.YteddflcloeelhaaZFPortLem
import Derived.Test.YteddflcloeelhaaZFPortx14
namespace Go.Proofs.Yteddflcloeelhaa.Pure
open Go.RowKit Go.Proofs.Yteddflcloeelhaa.FPort Go.Proofs.Yteddflcloeelhaa.PortLem Go.Proofs.YteddflcloeelhaaW.PrintWords Go.Proofs.YteddflcloeelhaaW.PrintLast
set_option linter.unusedSimpArgs false
set_option linter.unusedVariables false
/-- What a send comes to. -/
def sent (l : List S76) (who i v : Int) : List S76 × Int :=
  if i < 0 ∨ i ≥ l.length then (l, 4) else
  if (rd_T76 l i).f0.f0 = who then (if (rd_T76 l i).f1.f2 = ((rd_T76 l i).f1.f0.length : Int) then (l, 3) else (l.set i.toNat ⟨(rd_T76 l i).f0, pushR (rd_T76 l i).f1 v, (rd_T76 l i).f2⟩, 0)) else (l, 7)
def took (l : List S76) (who i : Int) : Int × List S76 × Int :=
  if i < 0 ∨ i ≥ l.length then (0, l, 4) else
  if (rd_T76 l i).f0.f1 = who then (if (rd_T76 l i).f2.f2 = 0 then (0, l, 4) else (rd (rd_T76 l i).f2.f0 (rd_T76 l i).f2.f1, l.set i.toNat ⟨(rd_T76 l i).f0, (rd_T76 l i).f1, popR (rd_T76 l i).f2⟩, 0)) else (0, l, 7)
theorem send_ev (l : List S76) (h : OkL l) (who i v : Int) (k : Nat) (hk : 10 ≤ k) : port_Send.f k l who i v = some (sent l who i v) := by
  have hl := h.2
  have hj : ∀ k, 1 ≤ k → ∀ b : Bool, (b = true ↔ (i < 0 ∨ i ≥ l.length)) → port_Send.j0 k l who i v b = some (sent l who i v) := by
    intro k hk b hb
    obtain ⟨k, rfl⟩ : ∃ j, k = j + 1 := ⟨k - 1, by omega⟩
    rw [port_Send.j0]
    unfold sent
    by_cases c : b = true
    · rw [if_pos c, if_pos (hb.1 c)]
    · have c' : ¬ (i < 0 ∨ i ≥ l.length) := fun q => c (hb.2 q)
      rw [if_neg c, if_neg c', if_pos (by omega), if_pos (by omega)]
      obtain ⟨j, rfl⟩ : ∃ j : Nat, i = j := ⟨i.toNat, by omega⟩
      have hjl : j < l.length := by omega
      rw [rd76_get l j hjl, Int.toNat_natCast]
      have ho := h.1 l[j] (List.getElem_mem _)
      have hs := ok_small h l[j] (List.getElem_mem _)
      by_cases c2 : l[j].f0.f0 = who
      · rw [if_pos c2, if_pos c2, push_ev _ hs.1, if_pos ho.2.1]
        by_cases c3 : l[j].f1.f2 = (l[j].f1.f0.length : Int)
        · rw [if_pos c3, if_pos c3]; rfl
        · rw [if_neg c3, if_neg c3, Option.bind_some, if_pos rfl]
          have := pwith_ev l (by omega) j hjl ⟨l[j].f0, pushR l[j].f1 v, l[j].f2⟩
          simp only [pushR] at this
          rw [this]; rfl
      · rw [if_neg c2, if_neg c2]
  unfold port_Send.f
  rw [portRight_ev l (by omega) k (by omega), Option.bind_some, if_pos (by simpa using h)]
  by_cases c : i < 0
  · rw [if_pos c]; exact hj k (by omega) _ (by simp [c])
  · rw [if_neg c]; exact hj k (by omega) _ (by simp; omega)
theorem read_ev (l : List S76) (h : OkL l) (who i : Int) (k : Nat) (hk : 10 ≤ k) : port_Read.f k l who i = some (took l who i) := by
  have hl := h.2
  have hj : ∀ k, 1 ≤ k → ∀ b : Bool, (b = true ↔ (i < 0 ∨ i ≥ l.length)) → port_Read.j0 k l who i b = some (took l who i) := by
    intro k hk b hb
    obtain ⟨k, rfl⟩ : ∃ j, k = j + 1 := ⟨k - 1, by omega⟩
    rw [port_Read.j0]
    unfold took
    by_cases c : b = true
    · rw [if_pos c, if_pos (hb.1 c)]
    · have c' : ¬ (i < 0 ∨ i ≥ l.length) := fun q => c (hb.2 q)
      rw [if_neg c, if_neg c', if_pos (by omega), if_pos (by omega)]
      obtain ⟨j, rfl⟩ : ∃ j : Nat, i = j := ⟨i.toNat, by omega⟩
      have hjl : j < l.length := by omega
      rw [rd76_get l j hjl, Int.toNat_natCast]
      have ho := h.1 l[j] (List.getElem_mem _)
      have hs := ok_small h l[j] (List.getElem_mem _)
      by_cases c2 : l[j].f0.f1 = who
      · rw [if_pos c2, if_pos c2, pop_ev _ hs.2, if_pos ho.2.2.1]
        by_cases c3 : l[j].f2.f2 = 0
        · rw [if_pos c3, if_pos c3]; rfl
        · rw [if_neg c3, if_neg c3, Option.bind_some, if_pos rfl]
          have := pwith_ev l (by omega) j hjl ⟨l[j].f0, l[j].f1, popR l[j].f2⟩
          simp only [popR] at this
          rw [this]; rfl
      · rw [if_neg c2, if_neg c2]
  unfold port_Read.f
  rw [portRight_ev l (by omega) k (by omega), Option.bind_some, if_pos (by simpa using h)]
  by_cases c : i < 0
  · rw [if_pos c]; exact hj k (by omega) _ (by simp [c])
  · rw [if_neg c]; exact hj k (by omega) _ (by simp; omega)
theorem set_row (l : List S76) (j : Nat) (x : S76) : (l.set j x).map asRow = (l.map asRow).set j (asRow x) := List.map_set
/-- What the document's send comes to: the error, and the row where there is none. -/
theorem rsend_ev (l : List S76) (h : OkL l) (who i v : Int) (k : Nat) (hk : 10 ≤ k) :
    ∃ r : S63, remontoirref18_Send.f k (l.map asRow) who i v = some (r.f0.f0, r.f0.f1, r.f0.f2, r.f1, r.f2, (sent l who i v).2) ∧
      ((sent l who i v).2 = 0 → 0 ≤ i ∧ i < l.length ∧ (sent l who i v).1.map asRow = (l.map asRow).set i.toNat r) ∧ ((sent l who i v).2 ≠ 0 → (sent l who i v).1 = l) ∧ OkL (sent l who i v).1 := by
  have hl := h.2
  have hj : ∀ k, 1 ≤ k → ∀ b : Bool, (b = true ↔ (i < 0 ∨ i ≥ l.length)) → ∃ r : S63, remontoirref18_Send.j0 k (l.map asRow) who i v b = some (r.f0.f0, r.f0.f1, r.f0.f2, r.f1, r.f2, (sent l who i v).2) ∧
      ((sent l who i v).2 = 0 → 0 ≤ i ∧ i < l.length ∧ (sent l who i v).1.map asRow = (l.map asRow).set i.toNat r) ∧ ((sent l who i v).2 ≠ 0 → (sent l who i v).1 = l) ∧ OkL (sent l who i v).1 := by
    intro k hk b hb
    obtain ⟨k, rfl⟩ : ∃ j, k = j + 1 := ⟨k - 1, by omega⟩
    rw [remontoirref18_Send.j0]
    unfold sent
    by_cases c : b = true
    · rw [if_pos c, if_pos (hb.1 c)]
      exact ⟨z63, rfl, fun q => by simp at q, fun _ => rfl, h⟩
    · have c' : ¬ (i < 0 ∨ i ≥ l.length) := fun q => c (hb.2 q)
      rw [if_neg c, if_neg c', if_pos (by omega), if_pos (by simp; omega)]
      obtain ⟨j, rfl⟩ : ∃ j : Nat, i = j := ⟨i.toNat, by omega⟩
      have hjl : j < l.length := by omega
      rw [rd63_get _ j (by simpa using hjl), rd76_get l j hjl, Int.toNat_natCast, List.getElem_map]
      have ho := h.1 l[j] (List.getElem_mem _)
      have hs := asRow_len ho
      obtain ⟨h1, h2, h3, h4, h5⟩ := ho
      have h2' := h2
      unfold Rg at h2'
      have e0 : (asRow l[j]).f0 = l[j].f0 := rfl
      rw [e0]
      by_cases c2 : l[j].f0.f0 = who
      · rw [if_pos c2, if_pos c2]
        by_cases c3 : l[j].f1.f2 = (l[j].f1.f0.length : Int)
        · rw [if_pos c3, if_pos (by omega)]
          exact ⟨asRow l[j], rfl, fun q => by simp at q, fun _ => rfl, h⟩
        · rw [if_neg c3, if_neg (by omega), Option.bind_some, if_pos (by simp; omega), Option.bind_some, if_pos (by simp; omega)]
          have pr := pushR_rg l[j].f1 v h2 c3
          refine ⟨asRow ⟨l[j].f0, pushR l[j].f1 v, l[j].f2⟩, ?_, fun _ => ⟨by omega, by omega, set_row _ _ _⟩, fun q => absurd rfl q, okL_set h j ⟨h1, pr.1, h3, by rw [pr.2]; exact h4, h5⟩⟩
          have pm := pushR_msgs l[j].f1 v h2 c3
          simp only [asRow, pm, List.nil_append]
      · rw [if_neg c2, if_neg c2]
        exact ⟨asRow l[j], rfl, fun q => by simp at q, fun _ => rfl, h⟩
  unfold remontoirref18_Send.f
  by_cases c : i < 0
  · rw [if_pos c]; exact hj k (by omega) _ (by simp [c])
  · rw [if_neg c]; exact hj k (by omega) _ (by simp; omega)
theorem rread_ev (l : List S76) (h : OkL l) (who i : Int) (k : Nat) (hk : 10 ≤ k) :
    ∃ r : S63, remontoirref18_Read.f k (l.map asRow) who i = some ((took l who i).1, r.f0.f0, r.f0.f1, r.f0.f2, r.f1, r.f2, (took l who i).2.2) ∧
      ((took l who i).2.2 = 0 → 0 ≤ i ∧ i < l.length ∧ (took l who i).2.1.map asRow = (l.map asRow).set i.toNat r) ∧ ((took l who i).2.2 ≠ 0 → (took l who i).2.1 = l) ∧ OkL (took l who i).2.1 := by
  have hl := h.2
  have hj : ∀ k, 1 ≤ k → ∀ b : Bool, (b = true ↔ (i < 0 ∨ i ≥ l.length)) → ∃ r : S63, remontoirref18_Read.j0 k (l.map asRow) who i b = some ((took l who i).1, r.f0.f0, r.f0.f1, r.f0.f2, r.f1, r.f2, (took l who i).2.2) ∧
      ((took l who i).2.2 = 0 → 0 ≤ i ∧ i < l.length ∧ (took l who i).2.1.map asRow = (l.map asRow).set i.toNat r) ∧ ((took l who i).2.2 ≠ 0 → (took l who i).2.1 = l) ∧ OkL (took l who i).2.1 := by
    intro k hk b hb
    obtain ⟨k, rfl⟩ : ∃ j, k = j + 1 := ⟨k - 1, by omega⟩
    rw [remontoirref18_Read.j0]
    unfold took
    by_cases c : b = true
    · rw [if_pos c, if_pos (hb.1 c)]
      exact ⟨z63, rfl, fun q => by simp at q, fun _ => rfl, h⟩
    · have c' : ¬ (i < 0 ∨ i ≥ l.length) := fun q => c (hb.2 q)
      rw [if_neg c, if_neg c', if_pos (by omega), if_pos (by simp; omega)]
      obtain ⟨j, rfl⟩ : ∃ j : Nat, i = j := ⟨i.toNat, by omega⟩
      have hjl : j < l.length := by omega
      rw [rd63_get _ j (by simpa using hjl), rd76_get l j hjl, Int.toNat_natCast, List.getElem_map]
      have ho := h.1 l[j] (List.getElem_mem _)
      have hs := asRow_len ho
      obtain ⟨h1, h2, h3, h4, h5⟩ := ho
      have h3' := h3
      unfold Rg at h3'
      have e0 : (asRow l[j]).f0 = l[j].f0 := rfl
      rw [e0]
      by_cases c2 : l[j].f0.f1 = who
      · rw [if_pos c2, if_pos c2]
        by_cases c3 : l[j].f2.f2 = 0
        · rw [if_pos c3, if_pos (by omega)]
          exact ⟨asRow l[j], rfl, fun q => by simp at q, fun _ => rfl, h⟩
        · rw [if_neg c3, if_neg (by omega), if_pos (by omega), if_pos (by omega)]
          have pr := popR_rg l[j].f2 h3 c3
          refine ⟨asRow ⟨l[j].f0, l[j].f1, popR l[j].f2⟩, ?_, fun _ => ⟨by omega, by omega, set_row _ _ _⟩, fun q => absurd rfl q, okL_set h j ⟨h1, h2, pr.1, h4, by rw [pr.2]; exact h5⟩⟩
          have pm := popR_msgs l[j].f2 h3 c3
          simp only [asRow, pm]
          rfl
      · rw [if_neg c2, if_neg c2]
        exact ⟨asRow l[j], rfl, fun q => by simp at q, fun _ => rfl, h⟩
  unfold remontoirref18_Read.f
  by_cases c : i < 0
  · rw [if_pos c]; exact hj k (by omega) _ (by simp [c])
  · rw [if_neg c]; exact hj k (by omega) _ (by simp; omega)
theorem sends_j1 (K : Nat) (hK : ∀ k, K ≤ k → remontoirlaw18_knows.f k = some true) (l a b : List S76) (h : OkL l) (ha : OkL a) (hb : OkL b) (i n m : Int) (x y : S63)
    (ea : n = 0 → 0 ≤ i ∧ i < l.length ∧ a.map asRow = (l.map asRow).set i.toNat x) (eb : m = 0 → 0 ≤ i ∧ i < l.length ∧ b.map asRow = (l.map asRow).set i.toNat y) (k : Nat) (hk : K + 1000 ≤ k) :
    remontoirlaw18_PortSends.j1 k i a b (l.map asRow) n m false x.f0.f0 x.f0.f1 x.f0.f2 x.f1 x.f2 y.f0.f0 y.f0.f1 y.f0.f2 y.f1 y.f2 = some true := by
  obtain ⟨k, rfl⟩ : ∃ j, k = j + 1 := ⟨k - 1, by omega⟩
  have hl := h.2
  have hal := ha.2
  have hbl := hb.2
  have A : n = 0 → (remontoirlaw18_As.f k a = some ((l.map asRow).set i.toNat x) ∧ remontoirref18_With.f (l.map asRow) i x.f0.f0 x.f0.f1 x.f0.f2 x.f1 x.f2 = some ((l.map asRow).set i.toNat x) ∧ remontoirlaw18_Same.f k ((l.map asRow).set i.toNat x) ((l.map asRow).set i.toNat x) = some true) := by
    intro q
    obtain ⟨q1, q2, q3⟩ := ea q
    obtain ⟨j, rfl⟩ : ∃ j : Nat, i = j := ⟨i.toNat, by omega⟩
    rw [Int.toNat_natCast] at q3 ⊢
    refine ⟨by rw [lAs_ev a ha k (by omega), q3], rwith_ev _ (by simp; omega) j (by simp; omega) x, lsame_ev _ (by simp; omega) ?_ k (by simp; omega)⟩
    rw [← q3]; exact rows_small ha
  have B : m = 0 → (remontoirlaw18_As.f k b = some ((l.map asRow).set i.toNat y) ∧ remontoirref18_With.f (l.map asRow) i y.f0.f0 y.f0.f1 y.f0.f2 y.f1 y.f2 = some ((l.map asRow).set i.toNat y) ∧ remontoirlaw18_Same.f k ((l.map asRow).set i.toNat y) ((l.map asRow).set i.toNat y) = some true) := by
    intro q
    obtain ⟨q1, q2, q3⟩ := eb q
    obtain ⟨j, rfl⟩ : ∃ j : Nat, i = j := ⟨i.toNat, by omega⟩
    rw [Int.toNat_natCast] at q3 ⊢
    refine ⟨by rw [lAs_ev b hb k (by omega), q3], rwith_ev _ (by simp; omega) j (by simp; omega) y, lsame_ev _ (by simp; omega) ?_ k (by simp; omega)⟩
    rw [← q3]; exact rows_small hb
  have hk' := hK k (by omega)
  rw [remontoirlaw18_PortSends.j1, if_neg (by simp)]
  by_cases c : n = 0
  · obtain ⟨A1, A2, A3⟩ := A c
    rw [if_pos c, A1, Option.bind_some, A2, Option.bind_some, A3, Option.bind_some, if_pos rfl]
    by_cases d : m = 0
    · obtain ⟨B1, B2, B3⟩ := B d
      rw [if_pos d, B1, Option.bind_some, B2, Option.bind_some, B3, Option.bind_some, if_pos rfl, hk']; rfl
    · rw [if_neg d, hk']; rfl
  · rw [if_neg c]
    by_cases d : m = 0
    · obtain ⟨B1, B2, B3⟩ := B d
      rw [if_pos d, B1, Option.bind_some, B2, Option.bind_some, B3, Option.bind_some, if_pos rfl, hk']; rfl
    · rw [if_neg d, hk']; rfl
theorem PortSends : remontoirlaw18_PortSends.Pure := by
  intro l a1 a2 a3 hl _ _ _
  obtain ⟨K, hK⟩ := knows_ev
  refine ⟨K + 2000 + l.length, ?_⟩
  generalize hkk : K + 2000 + l.length = k
  obtain ⟨b, eb, hb⟩ := great_ev l hl.1 l.length k 0 (by omega) (by omega)
  unfold remontoirlaw18_PortSends.f
  have eg : remontoirlaw18_great.f k l = some b := eb
  rw [eg, Option.bind_some]
  cases b with
  | true => rw [if_pos rfl, hK k (by omega)]; rfl
  | false =>
    obtain ⟨hll, hsm⟩ := hb rfl
    rw [List.drop_zero] at hsm
    have hs : ∀ x ∈ l, x.f1.f0.length ≤ 100 ∧ x.f2.f0.length ≤ 100 := fun x hx => by have := hsm x hx; omega
    rw [if_neg (by simp)]
    by_cases ok : OkL l
    · rw [send_ev l ok _ _ _ k (by omega), Option.bind_some, read_ev l ok _ _ k (by omega), Option.bind_some, lright_ev l (by omega) hs k (by omega), Option.bind_some, if_pos (by simpa using ok),
        lAs_ev l ok k (by omega), Option.bind_some]
      obtain ⟨x, ex, x1, x2, x3⟩ := rsend_ev l ok a1 a2 a3 k (by omega)
      obtain ⟨y, ey, y1, y2, y3⟩ := rread_ev l ok a1 a2 k (by omega)
      rw [ex, Option.bind_some, ey, Option.bind_some]
      dsimp only
      rw [if_pos rfl, if_pos rfl, if_pos rfl, lright_ev _ (by have := x3.2; omega) (ok_small x3) k (by have := x3.2; omega), Option.bind_some, if_pos (by simpa using x3),
        lright_ev _ (by have := y3.2; omega) (ok_small y3) k (by have := y3.2; omega), Option.bind_some, decide_eq_true y3]
      obtain ⟨k, rfl⟩ : ∃ j, k = j + 1 := ⟨k - 1, by omega⟩
      have S1 : (sent l a1 a2 a3).2 ≠ 0 → remontoirlaw18_stays.f k (sent l a1 a2 a3).1 l = some true := fun q => by rw [x2 q]; exact stays_ev l (by omega) hs k (by omega)
      have S2 : (took l a1 a2).2.2 ≠ 0 → remontoirlaw18_stays.f k (took l a1 a2).2.1 l = some true := fun q => by rw [y2 q]; exact stays_ev l (by omega) hs k (by omega)
      have J := sends_j1 K hK l _ _ ok x3 y3 a2 _ _ x y x1 y1 k (by omega)
      rw [remontoirlaw18_PortSends.j0, if_neg (by simp)]
      by_cases c : (sent l a1 a2 a3).2 = 0
      · rw [if_pos c]
        by_cases d : (took l a1 a2).2.2 = 0
        · rw [if_pos d]; exact J
        · rw [if_neg d, S2 d, Option.bind_some]; exact J
      · rw [if_neg c, S1 c, Option.bind_some, if_pos rfl]
        by_cases d : (took l a1 a2).2.2 = 0
        · rw [if_pos d]; exact J
        · rw [if_neg d, S2 d, Option.bind_some]; exact J
    · have es : port_Send.f k l a1 a2 a3 = some (l, 1) := by
        unfold port_Send.f
        rw [portRight_ev l (by omega) k (by omega), Option.bind_some, if_neg (by simpa using ok)]
      have er : port_Read.f k l a1 a2 = some (0, l, 1) := by
        unfold port_Read.f
        rw [portRight_ev l (by omega) k (by omega), Option.bind_some, if_neg (by simpa using ok)]
      rw [es, Option.bind_some, er, Option.bind_some, lright_ev l (by omega) hs k (by omega), Option.bind_some, if_neg (by simpa using ok)]
      dsimp only
      rw [stays_ev l (by omega) hs k (by omega), Option.bind_some, if_pos rfl, if_pos rfl, if_pos rfl, Option.bind_some, if_pos rfl, if_pos rfl, hK k (by omega)]
      rfl
end Go.Proofs.Yteddflcloeelhaa.Pure
