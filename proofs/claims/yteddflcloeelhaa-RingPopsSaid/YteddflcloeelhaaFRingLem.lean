/- What the functions of package ring, and of its reference, come to: lemmas for the statements of layer 3. No condition. -/
import Derived.Test.YteddflcloeelhaaFRingx0
import Derived.Test.YteddflcloeelhaaFRingx1
import Derived.Test.YteddflcloeelhaaFRingx2
import Derived.Test.YteddflcloeelhaaFRingx3
import Derived.Test.YteddflcloeelhaaFRingx5
import Derived.Test.YteddflcloeelhaaFRingx7
namespace Go.Proofs.Yteddflcloeelhaa.RingLem
open Go.RowKit Go.Proofs.Yteddflcloeelhaa.FRing Go.Proofs.YteddflcloeelhaaW.PrintWords Go.Proofs.YteddflcloeelhaaW.PrintLast
set_option linter.unusedSimpArgs false
set_option linter.unusedVariables false

theorem w64 {n : Int} (h1 : -9223372036854775808 ≤ n) (h2 : n ≤ 9223372036854775807) : wrap64 n = n := by unfold wrap64; omega
theorem wf64 {a : Int} (h : (Lit.int .i64 a).wf = true) : -9223372036854775808 ≤ a ∧ a ≤ 9223372036854775807 := by
  simp [Lit.wf, IntKind.min, IntKind.max, IntKind.signed, IntKind.bits] at h
  omega
theorem knows_ev : ∃ K, ∀ k, K ≤ k → remontoirlaw03_knows.f k = some true := Ev.of (fun k => remontoirlaw03_knows.mono k) (k := 30) (by kernel_rfl)
/-- May a ring be? -/
def Rg (l : List Int) (f m : Int) : Prop := 0 < l.length ∧ 0 ≤ f ∧ f < l.length ∧ 0 ≤ m ∧ m ≤ l.length
instance (l : List Int) (f m : Int) : Decidable (Rg l f m) := by unfold Rg; infer_instance
theorem right_ev (l : List Int) (f m : Int) (k : Nat) (hk : 1 ≤ k) : ring_Right.f k l f m = some (decide (Rg l f m)) := by
  obtain ⟨k, rfl⟩ : ∃ j, k = j + 1 := ⟨k - 1, by omega⟩
  unfold ring_Right.f
  simp only [ring_Right.j0]
  by_cases h1 : (l.length : Int) > 0
  · rw [if_pos h1]
    by_cases h2 : f ≥ 0
    · rw [if_pos h2]
      by_cases h3 : f < (l.length : Int)
      · rw [if_pos h3]
        by_cases h4 : m ≥ 0
        · rw [if_pos h4]; congr 1; apply Bool.eq_iff_iff.2; rw [decide_eq_true_iff, decide_eq_true_iff]; unfold Rg; omega
        · rw [if_neg h4, decide_eq_false (by unfold Rg; omega)]
      · rw [if_neg h3, decide_eq_false (by unfold Rg; omega)]
    · rw [if_neg h2, decide_eq_false (by unfold Rg; omega)]
  · rw [if_neg h1, decide_eq_false (by unfold Rg; omega)]
theorem rright_ev (l : List Int) (hl : l.length ≤ 100) (f m : Int) (k : Nat) (hk : 1 ≤ k) : remontoirref03_Right.f k l f m = some (decide (Rg l f m)) := by
  obtain ⟨k, rfl⟩ : ∃ j, k = j + 1 := ⟨k - 1, by omega⟩
  unfold remontoirref03_Right.f
  rw [w64 (by omega) (by omega)]
  simp only [remontoirref03_Right.j0]
  by_cases h1 : (l.length : Int) ≥ 1
  · rw [if_pos h1]
    by_cases h2 : f ≥ 0
    · rw [if_pos h2]
      by_cases h3 : f ≤ (l.length : Int) - 1
      · rw [if_pos h3]
        by_cases h4 : m ≥ 0
        · rw [if_pos h4]; congr 1; apply Bool.eq_iff_iff.2; rw [decide_eq_true_iff, decide_eq_true_iff]; unfold Rg; omega
        · rw [if_neg h4, decide_eq_false (by unfold Rg; omega)]
      · rw [if_neg h3, decide_eq_false (by unfold Rg; omega)]
    · rw [if_neg h2, decide_eq_false (by unfold Rg; omega)]
  · rw [if_neg h1, decide_eq_false (by unfold Rg; omega)]
theorem at_ev (l : List Int) (hl : 0 < l.length) (hl2 : l.length ≤ 100) (f i : Nat) (m : Int) (hf : f < l.length) (hi : i ≤ l.length) : ring_at.f l (f : Int) m (i : Int) = some (((f + i) % l.length : Nat) : Int) := by
  unfold ring_at.f
  rw [if_neg (by omega), w64 (by omega) (by omega), Int.tmod_eq_emod_of_nonneg (by omega)]
  congr 1
theorem own_ev (l : List Int) (hl : l.length ≤ 100) (f m : Int) : ring_own.f l f m = some (l, f, m) := by
  unfold ring_own.f
  rw [Option.bind_some, if_pos (by simp; omega)]
  simp
/-- A ring with a message more: its place. -/
def place (l : List Int) (f m : Nat) : Nat := (f + m) % l.length
theorem push_ev (l : List Int) (hl : l.length ≤ 100) (f m v : Int) (k : Nat) (hk : 1 ≤ k) :
    ring_Push.f k l f m v = if Rg l f m then (if m = l.length then some (l, f, m, 3) else some (l.set (place l f.toNat m.toNat) v, f, m + 1, 0)) else some (l, f, m, 1) := by
  unfold ring_Push.f
  rw [right_ev _ _ _ k hk, Option.bind_some]
  by_cases h : Rg l f m
  · rw [if_pos (by simpa using h), if_pos h]
    by_cases hm : m = l.length
    · rw [if_pos hm, if_pos hm]
    · have h' := h
      unfold Rg at h'
      obtain ⟨a, rfl⟩ : ∃ a : Nat, f = a := ⟨f.toNat, by omega⟩
      obtain ⟨b, rfl⟩ : ∃ b : Nat, m = b := ⟨m.toNat, by omega⟩
      have hp : (a + b) % l.length < l.length := Nat.mod_lt _ (by omega)
      rw [if_neg hm, if_neg hm, own_ev l hl, Option.bind_some]
      dsimp only
      rw [at_ev l h'.1 hl a b _ (by omega) (by omega), Option.bind_some, if_pos (by omega), if_pos (by omega), w64 (by omega) (by omega)]
      rfl
  · rw [if_neg (by simpa using h), if_neg h]
theorem pop_ev (l : List Int) (hl : l.length ≤ 100) (f m : Int) (k : Nat) (hk : 1 ≤ k) :
    ring_Pop.f k l f m = if Rg l f m then (if m = 0 then some (0, l, f, m, 4) else some (rd l f, l, ((place l f.toNat 1 : Nat) : Int), m - 1, 0)) else some (0, l, f, m, 1) := by
  unfold ring_Pop.f
  rw [right_ev _ _ _ k hk, Option.bind_some]
  by_cases h : Rg l f m
  · rw [if_pos (by simpa using h), if_pos h]
    by_cases hm : m = 0
    · rw [if_pos hm, if_pos hm]
    · have h' := h
      unfold Rg at h'
      obtain ⟨a, rfl⟩ : ∃ a : Nat, f = a := ⟨f.toNat, by omega⟩
      rw [if_neg hm, if_neg hm, own_ev l hl, Option.bind_some]
      dsimp only
      rw [if_pos (by omega), if_pos (by omega)]
      rw [show (1 : Int) = ((1 : Nat) : Int) from rfl, at_ev l h'.1 hl a 1 _ (by omega) (by omega), Option.bind_some, w64 (by omega) (by omega)]
      rfl
  · rw [if_neg (by simpa using h), if_neg h]
theorem place_lt (l : List Int) (h : 0 < l.length) (f m : Nat) : place l f m < l.length := Nat.mod_lt _ h
theorem same_l0 (a b : List Int) (ha : a.length ≤ 1000) (hl : a.length = b.length) (d : Nat) : ∀ (k i : Nat), i + d = a.length → d + 1 ≤ k →
    remontoirref03_SameList.l0 k a b (i : Int) = some (decide (a.drop i = b.drop i)) := by
  induction d with
  | zero =>
    intro k i hi hk
    obtain ⟨k, rfl⟩ : ∃ j, k = j + 1 := ⟨k - 1, by omega⟩
    rw [remontoirref03_SameList.l0, if_neg (by omega), decide_eq_true]
    rw [List.drop_eq_nil_of_le (by omega), List.drop_eq_nil_of_le (by omega)]
  | succ d ih =>
    intro k i hi hk
    obtain ⟨k, rfl⟩ : ∃ j, k = j + 1 := ⟨k - 1, by omega⟩
    have ea : rd a i = a[i] := by unfold rd; rw [Int.toNat_natCast, List.getD_eq_getElem?_getD, List.getElem?_eq_getElem (by omega)]; rfl
    have eb : rd b i = b[i] := by unfold rd; rw [Int.toNat_natCast, List.getD_eq_getElem?_getD, List.getElem?_eq_getElem (by omega)]; rfl
    rw [remontoirref03_SameList.l0, if_pos (by omega), if_pos (by omega), if_pos (by omega), ea, eb, w64 (by omega) (by omega)]
    rw [List.drop_eq_getElem_cons (show i < a.length by omega), List.drop_eq_getElem_cons (show i < b.length by omega)]
    by_cases h : a[i] = b[i]
    · rw [if_pos h, show (i : Int) + 1 = ((i + 1 : Nat) : Int) by omega, ih k (i + 1) (by omega) (by omega)]
      congr 1
      apply Bool.eq_iff_iff.2
      rw [decide_eq_true_iff, decide_eq_true_iff]
      constructor
      · intro h2; rw [h, h2]
      · intro h2; exact (List.cons.inj h2).2
    · rw [if_neg h, decide_eq_false]
      intro h2
      exact h (List.cons.inj h2).1
theorem same_ev (a b : List Int) (ha : a.length ≤ 1000) (k : Nat) (hk : a.length + 1 ≤ k) : remontoirref03_SameList.f k a b = some (decide (a = b)) := by
  unfold remontoirref03_SameList.f
  by_cases hl : (a.length : Int) = (b.length : Int)
  · rw [if_pos hl]
    have := same_l0 a b ha (by omega) a.length k 0 (by omega) hk
    simpa using this
  · rw [if_neg hl, decide_eq_false]
    intro h
    rw [h] at hl
    exact hl rfl
theorem sameR_ev (a b : List Int) (ha : a.length ≤ 1000) (f m g n : Int) (k : Nat) (hk : a.length + 1 ≤ k) : remontoirref03_Same.f k a f m b g n = some (decide (a = b ∧ f = g ∧ m = n)) := by
  unfold remontoirref03_Same.f
  rw [same_ev a b ha k hk, Option.bind_some]
  obtain ⟨k, rfl⟩ : ∃ j, k = j + 1 := ⟨k - 1, by omega⟩
  simp only [remontoirref03_Same.j0]
  by_cases h1 : a = b
  · rw [if_pos (by simpa using h1)]
    by_cases h2 : f = g
    · rw [if_pos h2]; congr 1; apply Bool.eq_iff_iff.2; simp [h1, h2]
    · rw [if_neg h2, decide_eq_false (fun h => h2 h.2.1)]
  · rw [if_neg (by simpa using h1), decide_eq_false (fun h => h1 h.1)]
theorem with_ev (l : List Int) (hl : l.length ≤ 100) (f m v : Int) (h : Rg l f m) (hm : m < l.length) (k : Nat) (hk : 1 ≤ k) : remontoirref03_With.f k l f m v = some (l.set (place l f.toNat m.toNat) v, f, m + 1) := by
  obtain ⟨k, rfl⟩ : ∃ j, k = j + 1 := ⟨k - 1, by omega⟩
  have h' := h
  unfold Rg at h'
  obtain ⟨a, rfl⟩ : ∃ a : Nat, f = a := ⟨f.toNat, by omega⟩
  obtain ⟨b, rfl⟩ : ∃ b : Nat, m = b := ⟨m.toNat, by omega⟩
  unfold remontoirref03_With.f
  rw [w64 (n := (a : Int) + b) (by omega) (by omega)]
  have hj : ∀ p : Nat, p < l.length → p = place l a b → remontoirref03_With.j0 (k + 1) v (p : Int) l (a : Int) (b : Int) = some (l.set (place l a b) v, (a : Int), (b : Int) + 1) := by
    intro p hp he
    rw [remontoirref03_With.j0, Option.bind_some, if_pos (by simp; omega), Option.bind_some, if_pos (by omega), if_pos (by simp; omega), w64 (by omega) (by omega), Int.toNat_natCast, he]
    simp
  have hdm := Nat.div_add_mod (a + b) l.length
  by_cases hge : (a : Int) + b ≥ (l.length : Int)
  · rw [if_pos hge, w64 (by omega) (by omega), show (a : Int) + b - l.length = ((a + b - l.length : Nat) : Int) by omega]
    refine hj _ (by omega) ?_
    unfold place
    rw [Nat.mod_eq_sub_mod (by omega), Nat.mod_eq_of_lt (by omega)]
  · rw [if_neg hge, show (a : Int) + b = ((a + b : Nat) : Int) by omega]
    refine hj _ (by omega) ?_
    unfold place
    rw [Nat.mod_eq_of_lt (by omega)]
theorem without_ev (l : List Int) (hl : l.length ≤ 100) (f m : Int) (h : Rg l f m) (k : Nat) (hk : 1 ≤ k) : remontoirref03_Without.f k l f m = some (l, ((place l f.toNat 1 : Nat) : Int), m - 1) := by
  obtain ⟨k, rfl⟩ : ∃ j, k = j + 1 := ⟨k - 1, by omega⟩
  have h' := h
  unfold Rg at h'
  obtain ⟨a, rfl⟩ : ∃ a : Nat, f = a := ⟨f.toNat, by omega⟩
  unfold remontoirref03_Without.f place
  rw [w64 (n := (a : Int) + 1) (by omega) (by omega), Int.toNat_natCast]
  by_cases he : (a : Int) + 1 = (l.length : Int)
  · rw [if_pos he, remontoirref03_Without.j0, w64 (by omega) (by omega), show a + 1 = l.length by omega, Nat.mod_self]
    rfl
  · rw [if_neg he, remontoirref03_Without.j0, w64 (by omega) (by omega), Nat.mod_eq_of_lt (by omega)]
    rfl
theorem as_ev (l : List Int) (f m : Int) : remontoirlaw03_As.f l f m = some (l, f, m) := rfl

/-- A ring's messages. -/
def msgs (l : List Int) (f m : Nat) : List Int := (List.range m).map fun i => rd l ((place l f i : Nat) : Int)
theorem msgs_length (l : List Int) (f m : Nat) : (msgs l f m).length = m := by simp [msgs]
theorem msgs_succ (l : List Int) (f m : Nat) : msgs l f (m + 1) = msgs l f m ++ [rd l ((place l f m : Nat) : Int)] := by
  unfold msgs
  rw [List.range_succ, List.map_append]
  rfl
theorem list_l0 (l : List Int) (hl : l.length ≤ 100) (f m : Nat) (hf : f < l.length) (hm : m ≤ l.length) (d : Nat) : ∀ (k i : Nat), i + d = m → d + 1 ≤ k →
    ring_List.l0 k (msgs l f i) (m : Int) (i : Int) l (f : Int) (m : Int) = some (msgs l f m) := by
  induction d with
  | zero =>
    intro k i hi hk
    obtain ⟨k, rfl⟩ : ∃ j, k = j + 1 := ⟨k - 1, by omega⟩
    rw [ring_List.l0, if_neg (by omega), show i = m by omega]
  | succ d ih =>
    intro k i hi hk
    obtain ⟨k, rfl⟩ : ∃ j, k = j + 1 := ⟨k - 1, by omega⟩
    have hp := place_lt l (by omega) f i
    unfold place at hp
    rw [ring_List.l0, if_pos (by omega), at_ev l (by omega) hl f i _ hf (by omega), Option.bind_some, if_pos (by omega), if_pos (by omega), if_pos (by rw [msgs_length]; omega), w64 (by omega) (by omega)]
    have := ih k (i + 1) (by omega) (by omega)
    rw [msgs_succ] at this
    exact this
theorem list_ev (l : List Int) (hl : l.length ≤ 100) (f m : Int) (k : Nat) (hk : 200 ≤ k) : ring_List.f k l f m = if Rg l f m then some (msgs l f.toNat m.toNat) else some [] := by
  unfold ring_List.f
  rw [right_ev _ _ _ k (by omega), Option.bind_some]
  by_cases h : Rg l f m
  · have h' := h
    unfold Rg at h'
    obtain ⟨a, rfl⟩ : ∃ a : Nat, f = a := ⟨f.toNat, by omega⟩
    obtain ⟨b, rfl⟩ : ∃ b : Nat, m = b := ⟨m.toNat, by omega⟩
    rw [if_pos (by simpa using h), if_pos h]
    exact list_l0 l hl a b (by omega) (by omega) b k 0 (by omega) (by omega)
  · rw [if_neg (by simpa using h), if_neg h]
theorem rd_get (l : List Int) (i : Nat) (h : i < l.length) : rd l (i : Int) = l[i] := by
  unfold rd; rw [Int.toNat_natCast, List.getD_eq_getElem?_getD, List.getElem?_eq_getElem h]; rfl
theorem rlist_ev (l : List Int) (hl : l.length ≤ 100) (f m : Int) (h : Rg l f m) : remontoirref03_List.f l f m = some (msgs l f.toNat m.toNat) := by
  have h' := h
  unfold Rg at h'
  obtain ⟨a, rfl⟩ : ∃ a : Nat, f = a := ⟨f.toNat, by omega⟩
  obtain ⟨b, rfl⟩ : ∃ b : Nat, m = b := ⟨m.toNat, by omega⟩
  unfold remontoirref03_List.f
  rw [Option.bind_some, if_pos (by omega), if_pos (by omega), if_pos (by simp; omega), Option.bind_some, if_pos (by simp; omega), Option.bind_some, if_pos (by omega), if_pos (by simp; omega)]
  congr 1
  simp only [Int.toNat_natCast, List.nil_append]
  apply List.ext_getElem
  · simp [msgs]; omega
  · intro i h1 h2
    have hi : i < b := by simpa [msgs] using h2
    have hp := place_lt l (by omega) a i
    rw [List.getElem_take]
    have e : (msgs l a b)[i] = l[place l a i] := by simp [msgs, rd_get l _ hp]
    rw [e, List.getElem_append]
    split
    · rename_i hlt
      simp at hlt
      rw [List.getElem_drop]
      congr 1
      unfold place
      rw [Nat.mod_eq_of_lt (by omega)]
    · rename_i hlt
      simp at hlt
      rw [List.getElem_take]
      congr 1
      unfold place
      rw [Nat.mod_eq_sub_mod (by omega), Nat.mod_eq_of_lt (by omega)]
      simp
      omega
/-- A message that is pushed is behind all. -/
theorem msgs_push (l : List Int) (f m : Nat) (v : Int) (hf : f < l.length) (hm : m < l.length) : msgs (l.set (place l f m) v) f (m + 1) = msgs l f m ++ [v] := by
  have hp := place_lt l (by omega) f m
  rw [msgs_succ]
  have e : ∀ i, place (l.set (place l f m) v) f i = place l f i := fun i => by simp [place]
  congr 1
  · unfold msgs
    apply List.map_congr_left
    intro i hi
    rw [List.mem_range] at hi
    have hpi := place_lt l (by omega) f i
    rw [e, rd_get _ _ (by simpa using hpi), rd_get _ _ hpi, List.getElem_set_ne]
    unfold place
    intro he
    have h1 := Nat.div_add_mod (f + m) l.length
    have h2 := Nat.div_add_mod (f + i) l.length
    by_cases c1 : f + m < l.length
    · rw [Nat.mod_eq_of_lt c1, Nat.mod_eq_of_lt (by omega)] at he; omega
    · rw [Nat.mod_eq_sub_mod (by omega), Nat.mod_eq_of_lt (show f + m - l.length < l.length by omega)] at he
      by_cases c2 : f + i < l.length
      · rw [Nat.mod_eq_of_lt c2] at he; omega
      · rw [Nat.mod_eq_sub_mod (by omega), Nat.mod_eq_of_lt (show f + i - l.length < l.length by omega)] at he; omega
  · rw [e, rd_get _ _ (by simpa using hp)]
    simp
theorem place_place (l : List Int) (f i : Nat) : place l (place l f 1) i = place l f (i + 1) := by
  unfold place
  rw [Nat.mod_add_mod]
  congr 1
  omega
/-- What is popped is the first one, and all others stay. -/
theorem msgs_pop (l : List Int) (f m : Nat) (hf : f < l.length) : msgs l f (m + 1) = rd l (f : Int) :: msgs l (place l f 1) m := by
  unfold msgs
  rw [List.range_succ_eq_map, List.map_cons, List.map_map]
  congr 1
  · unfold place
    rw [Nat.add_zero, Nat.mod_eq_of_lt hf]
  · apply List.map_congr_left
    intro i _
    show rd l ((place l f (i + 1) : Nat) : Int) = _
    rw [place_place]
end Go.Proofs.Yteddflcloeelhaa.RingLem
