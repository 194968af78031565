/- What the functions of package ring, and of its reference, come to: lemmas for the statements of layer 18. No condition. -/
import Derived.Test.YteddflcloeelhaaZFDelivx0
import Derived.Test.YteddflcloeelhaaZFDelivx2
import Derived.Test.YteddflcloeelhaaZFDelivx3
import Derived.Test.YteddflcloeelhaaZFDelivx4
import Derived.Test.YteddflcloeelhaaZFDelivx5
import Derived.Test.YteddflcloeelhaaZFDelivx6
import Derived.Test.YteddflcloeelhaaZFDelivx7
import Derived.Test.YteddflcloeelhaaZFDelivx8
import Derived.Test.YteddflcloeelhaaZFDelivx9
import Derived.Test.YteddflcloeelhaaZFDelivx10
import Derived.Test.YteddflcloeelhaaZFDelivx11
import Derived.Test.YteddflcloeelhaaZFDelivx12
namespace Go.Proofs.Yteddflcloeelhaa.PortLem
open Go.RowKit Go.Proofs.Yteddflcloeelhaa.FDeliv Go.Proofs.YteddflcloeelhaaW.PrintWords Go.Proofs.YteddflcloeelhaaW.PrintLast
set_option linter.unusedSimpArgs false
set_option linter.unusedVariables false

theorem w64 {n : Int} (h1 : -9223372036854775808 ≤ n) (h2 : n ≤ 9223372036854775807) : wrap64 n = n := by unfold wrap64; omega
theorem wf64 {a : Int} (h : (Lit.int .i64 a).wf = true) : -9223372036854775808 ≤ a ∧ a ≤ 9223372036854775807 := by
  simp [Lit.wf, IntKind.min, IntKind.max, IntKind.signed, IntKind.bits] at h
  omega
theorem knows_ev : ∃ K, ∀ k, K ≤ k → remontoirlaw18_knows.f k = some true := Ev.of (fun k => remontoirlaw18_knows.mono k) (k := 30) (by kernel_rfl)
/-- May a ring be? -/
def Rg (l : List Int) (f m : Int) : Prop := 0 < l.length ∧ 0 ≤ f ∧ f < l.length ∧ 0 ≤ m ∧ m ≤ l.length
instance (l : List Int) (f m : Int) : Decidable (Rg l f m) := by unfold Rg; infer_instance
theorem right_ev (l : List Int) (f m : Int) : ring_Right.f l f m = some (decide (Rg l f m)) := by
  unfold ring_Right.f
  by_cases h1 : (l.length : Int) > 0
  · rw [if_pos h1]
    by_cases h2 : f ≥ 0
    · rw [if_pos h2]
      by_cases h3 : f < (l.length : Int)
      · rw [if_pos h3]
        by_cases h4 : m ≥ 0
        · rw [if_pos h4]; congr 1; apply Bool.eq_iff_iff.2; rw [decide_eq_true_iff, decide_eq_true_iff]; unfold Rg; omega
        · rw [if_neg h4, decide_eq_false (by unfold Rg; omega)]
      · rw [if_neg h3, decide_eq_false (by unfold Rg; omega)]
    · rw [if_neg h2, decide_eq_false (by unfold Rg; omega)]
  · rw [if_neg h1, decide_eq_false (by unfold Rg; omega)]
theorem rright_ev (l : List Int) (hl : l.length ≤ 100) (f m : Int) : remontoirref03_Right.f l f m = some (decide (Rg l f m)) := by
  unfold remontoirref03_Right.f
  rw [w64 (by omega) (by omega)]
  by_cases h1 : (l.length : Int) ≥ 1
  · rw [if_pos h1]
    by_cases h2 : f ≥ 0
    · rw [if_pos h2]
      by_cases h3 : f ≤ (l.length : Int) - 1
      · rw [if_pos h3]
        by_cases h4 : m ≥ 0
        · rw [if_pos h4]; congr 1; apply Bool.eq_iff_iff.2; rw [decide_eq_true_iff, decide_eq_true_iff]; unfold Rg; omega
        · rw [if_neg h4, decide_eq_false (by unfold Rg; omega)]
      · rw [if_neg h3, decide_eq_false (by unfold Rg; omega)]
    · rw [if_neg h2, decide_eq_false (by unfold Rg; omega)]
  · rw [if_neg h1, decide_eq_false (by unfold Rg; omega)]
theorem at_ev (l : List Int) (hl : 0 < l.length) (hl2 : l.length ≤ 100) (f i : Nat) (m : Int) (hf : f < l.length) (hi : i ≤ l.length) : ring_at.f l (f : Int) m (i : Int) = some (((f + i) % l.length : Nat) : Int) := by
  unfold ring_at.f
  rw [if_neg (by omega), w64 (by omega) (by omega), Int.tmod_eq_emod_of_nonneg (by omega)]
  congr 1
theorem own_ev (l : List Int) (hl : l.length ≤ 100) (f m : Int) : ring_own.f l f m = some (l, f, m) := by
  unfold ring_own.f
  rw [Option.bind_some, if_pos (by simp; omega)]
  simp
/-- A ring with a message more: its place. -/
def place (l : List Int) (f m : Nat) : Nat := (f + m) % l.length
theorem push_ev (l : List Int) (hl : l.length ≤ 100) (f m v : Int) :
    ring_Push.f l f m v = if Rg l f m then (if m = l.length then some (l, f, m, 3) else some (l.set (place l f.toNat m.toNat) v, f, m + 1, 0)) else some (l, f, m, 1) := by
  unfold ring_Push.f
  rw [right_ev, Option.bind_some]
  by_cases h : Rg l f m
  · rw [if_pos (by simpa using h), if_pos h]
    by_cases hm : m = l.length
    · rw [if_pos hm, if_pos hm]
    · have h' := h
      unfold Rg at h'
      obtain ⟨a, rfl⟩ : ∃ a : Nat, f = a := ⟨f.toNat, by omega⟩
      obtain ⟨b, rfl⟩ : ∃ b : Nat, m = b := ⟨m.toNat, by omega⟩
      have hp : (a + b) % l.length < l.length := Nat.mod_lt _ (by omega)
      rw [if_neg hm, if_neg hm, own_ev l hl, Option.bind_some]
      dsimp only
      rw [at_ev l h'.1 hl a b _ (by omega) (by omega), Option.bind_some, if_pos (by omega), if_pos (by omega), w64 (by omega) (by omega)]
      rfl
  · rw [if_neg (by simpa using h), if_neg h]
theorem pop_ev (l : List Int) (hl : l.length ≤ 100) (f m : Int) :
    ring_Pop.f l f m = if Rg l f m then (if m = 0 then some (0, l, f, m, 4) else some (rd l f, l, ((place l f.toNat 1 : Nat) : Int), m - 1, 0)) else some (0, l, f, m, 1) := by
  unfold ring_Pop.f
  rw [right_ev, Option.bind_some]
  by_cases h : Rg l f m
  · rw [if_pos (by simpa using h), if_pos h]
    by_cases hm : m = 0
    · rw [if_pos hm, if_pos hm]
    · have h' := h
      unfold Rg at h'
      obtain ⟨a, rfl⟩ : ∃ a : Nat, f = a := ⟨f.toNat, by omega⟩
      rw [if_neg hm, if_neg hm, own_ev l hl, Option.bind_some]
      dsimp only
      rw [if_pos (by omega), if_pos (by omega)]
      rw [show (1 : Int) = ((1 : Nat) : Int) from rfl, at_ev l h'.1 hl a 1 _ (by omega) (by omega), Option.bind_some, w64 (by omega) (by omega)]
      rfl
  · rw [if_neg (by simpa using h), if_neg h]
theorem place_lt (l : List Int) (h : 0 < l.length) (f m : Nat) : place l f m < l.length := Nat.mod_lt _ h
theorem same_l0 (a b : List Int) (ha : a.length ≤ 1000) (hl : a.length = b.length) (d : Nat) : ∀ (k i : Nat), i + d = a.length → d + 1 ≤ k →
    remontoirref03_SameList.l0 k a b (i : Int) = some (decide (a.drop i = b.drop i)) := by
  induction d with
  | zero =>
    intro k i hi hk
    obtain ⟨k, rfl⟩ : ∃ j, k = j + 1 := ⟨k - 1, by omega⟩
    rw [remontoirref03_SameList.l0, if_neg (by omega), decide_eq_true]
    rw [List.drop_eq_nil_of_le (by omega), List.drop_eq_nil_of_le (by omega)]
  | succ d ih =>
    intro k i hi hk
    obtain ⟨k, rfl⟩ : ∃ j, k = j + 1 := ⟨k - 1, by omega⟩
    have ea : rd a i = a[i] := by unfold rd; rw [Int.toNat_natCast, List.getD_eq_getElem?_getD, List.getElem?_eq_getElem (by omega)]; rfl
    have eb : rd b i = b[i] := by unfold rd; rw [Int.toNat_natCast, List.getD_eq_getElem?_getD, List.getElem?_eq_getElem (by omega)]; rfl
    rw [remontoirref03_SameList.l0, if_pos (by omega), if_pos (by omega), if_pos (by omega), ea, eb, w64 (by omega) (by omega)]
    rw [List.drop_eq_getElem_cons (show i < a.length by omega), List.drop_eq_getElem_cons (show i < b.length by omega)]
    by_cases h : a[i] = b[i]
    · rw [if_pos h, show (i : Int) + 1 = ((i + 1 : Nat) : Int) by omega, ih k (i + 1) (by omega) (by omega)]
      congr 1
      apply Bool.eq_iff_iff.2
      rw [decide_eq_true_iff, decide_eq_true_iff]
      constructor
      · intro h2; rw [h, h2]
      · intro h2; exact (List.cons.inj h2).2
    · rw [if_neg h, decide_eq_false]
      intro h2
      exact h (List.cons.inj h2).1
theorem same_ev (a b : List Int) (ha : a.length ≤ 1000) (k : Nat) (hk : a.length + 1 ≤ k) : remontoirref03_SameList.f k a b = some (decide (a = b)) := by
  unfold remontoirref03_SameList.f
  by_cases hl : (a.length : Int) = (b.length : Int)
  · rw [if_pos hl]
    have := same_l0 a b ha (by omega) a.length k 0 (by omega) hk
    simpa using this
  · rw [if_neg hl, decide_eq_false]
    intro h
    rw [h] at hl
    exact hl rfl
theorem sameR_ev (a b : List Int) (ha : a.length ≤ 1000) (f m g n : Int) (k : Nat) (hk : a.length + 1 ≤ k) : remontoirref03_Same.f k a f m b g n = some (decide (a = b ∧ f = g ∧ m = n)) := by
  unfold remontoirref03_Same.f
  rw [same_ev a b ha k hk, Option.bind_some]
  by_cases h1 : a = b
  · rw [if_pos (by simpa using h1)]
    by_cases h2 : f = g
    · rw [if_pos h2]; congr 1; apply Bool.eq_iff_iff.2; simp [h1, h2]
    · rw [if_neg h2, decide_eq_false (fun h => h2 h.2.1)]
  · rw [if_neg (by simpa using h1), decide_eq_false (fun h => h1 h.1)]
theorem as_ev (l : List Int) (f m : Int) : remontoirlaw03_As.f l f m = some (l, f, m) := rfl

/-- A ring's messages. -/
def msgs (l : List Int) (f m : Nat) : List Int := (List.range m).map fun i => rd l ((place l f i : Nat) : Int)
theorem msgs_length (l : List Int) (f m : Nat) : (msgs l f m).length = m := by simp [msgs]
theorem msgs_succ (l : List Int) (f m : Nat) : msgs l f (m + 1) = msgs l f m ++ [rd l ((place l f m : Nat) : Int)] := by
  unfold msgs
  rw [List.range_succ, List.map_append]
  rfl
theorem list_l0 (l : List Int) (hl : l.length ≤ 100) (f m : Nat) (hf : f < l.length) (hm : m ≤ l.length) (d : Nat) : ∀ (k i : Nat), i + d = m → d + 1 ≤ k →
    ring_List.l0 k (msgs l f i) (m : Int) (i : Int) l (f : Int) (m : Int) = some (msgs l f m) := by
  induction d with
  | zero =>
    intro k i hi hk
    obtain ⟨k, rfl⟩ : ∃ j, k = j + 1 := ⟨k - 1, by omega⟩
    rw [ring_List.l0, if_neg (by omega), show i = m by omega]
  | succ d ih =>
    intro k i hi hk
    obtain ⟨k, rfl⟩ : ∃ j, k = j + 1 := ⟨k - 1, by omega⟩
    have hp := place_lt l (by omega) f i
    unfold place at hp
    rw [ring_List.l0, if_pos (by omega), at_ev l (by omega) hl f i _ hf (by omega), Option.bind_some, if_pos (by omega), if_pos (by omega), if_pos (by rw [msgs_length]; omega), w64 (by omega) (by omega)]
    have := ih k (i + 1) (by omega) (by omega)
    rw [msgs_succ] at this
    exact this
theorem list_ev (l : List Int) (hl : l.length ≤ 100) (f m : Int) (k : Nat) (hk : 200 ≤ k) : ring_List.f k l f m = if Rg l f m then some (msgs l f.toNat m.toNat) else some [] := by
  unfold ring_List.f
  rw [right_ev, Option.bind_some]
  by_cases h : Rg l f m
  · have h' := h
    unfold Rg at h'
    obtain ⟨a, rfl⟩ : ∃ a : Nat, f = a := ⟨f.toNat, by omega⟩
    obtain ⟨b, rfl⟩ : ∃ b : Nat, m = b := ⟨m.toNat, by omega⟩
    rw [if_pos (by simpa using h), if_pos h]
    exact list_l0 l hl a b (by omega) (by omega) b k 0 (by omega) (by omega)
  · rw [if_neg (by simpa using h), if_neg h]
theorem rd_get (l : List Int) (i : Nat) (h : i < l.length) : rd l (i : Int) = l[i] := by
  unfold rd; rw [Int.toNat_natCast, List.getD_eq_getElem?_getD, List.getElem?_eq_getElem h]; rfl
/-- A message that is pushed is behind all. -/
theorem msgs_push (l : List Int) (f m : Nat) (v : Int) (hf : f < l.length) (hm : m < l.length) : msgs (l.set (place l f m) v) f (m + 1) = msgs l f m ++ [v] := by
  have hp := place_lt l (by omega) f m
  rw [msgs_succ]
  have e : ∀ i, place (l.set (place l f m) v) f i = place l f i := fun i => by simp [place]
  congr 1
  · unfold msgs
    apply List.map_congr_left
    intro i hi
    rw [List.mem_range] at hi
    have hpi := place_lt l (by omega) f i
    rw [e, rd_get _ _ (by simpa using hpi), rd_get _ _ hpi, List.getElem_set_ne]
    unfold place
    intro he
    have h1 := Nat.div_add_mod (f + m) l.length
    have h2 := Nat.div_add_mod (f + i) l.length
    by_cases c1 : f + m < l.length
    · rw [Nat.mod_eq_of_lt c1, Nat.mod_eq_of_lt (by omega)] at he; omega
    · rw [Nat.mod_eq_sub_mod (by omega), Nat.mod_eq_of_lt (show f + m - l.length < l.length by omega)] at he
      by_cases c2 : f + i < l.length
      · rw [Nat.mod_eq_of_lt c2] at he; omega
      · rw [Nat.mod_eq_sub_mod (by omega), Nat.mod_eq_of_lt (show f + i - l.length < l.length by omega)] at he; omega
  · rw [e, rd_get _ _ (by simpa using hp)]
    simp
theorem place_place (l : List Int) (f i : Nat) : place l (place l f 1) i = place l f (i + 1) := by
  unfold place
  rw [Nat.mod_add_mod]
  congr 1
  omega
/-- What is popped is the first one, and all others stay. -/
theorem msgs_pop (l : List Int) (f m : Nat) (hf : f < l.length) : msgs l f (m + 1) = rd l (f : Int) :: msgs l (place l f 1) m := by
  unfold msgs
  rw [List.range_succ_eq_map, List.map_cons, List.map_map]
  congr 1
  · unfold place
    rw [Nat.add_zero, Nat.mod_eq_of_lt hf]
  · apply List.map_congr_left
    intro i _
    show rd l ((place l f (i + 1) : Nat) : Int) = _
    rw [place_place]

/-! ### Lines -/
def May (p : S51) : Prop := 0 ≤ p.f0 ∧ p.f0 < 4 ∧ 0 ≤ p.f1 ∧ p.f1 < 4 ∧ p.f0 ≠ p.f1 ∧ 1 ≤ p.f2 ∧ p.f2 ≤ 4
instance (p : S51) : Decidable (May p) := by unfold May; infer_instance
theorem may_ev (p : S51) : port_may.f p.f0 p.f1 p.f2 = some (decide (May p)) := by
  unfold port_may.f port_may.in4
  by_cases h1 : 0 ≤ p.f0 ∧ p.f0 < 4
  · rw [if_pos (by simpa using h1)]
    by_cases h2 : 0 ≤ p.f1 ∧ p.f1 < 4
    · rw [if_pos (by simpa using h2)]
      by_cases h3 : p.f0 = p.f1
      · rw [if_pos h3, decide_eq_false (fun h => h.2.2.2.2.1 h3)]
      · rw [if_neg h3]
        by_cases h4 : p.f2 ≥ 1
        · rw [if_pos h4]; congr 1; apply Bool.eq_iff_iff.2; rw [decide_eq_true_iff, decide_eq_true_iff]; unfold May; omega
        · rw [if_neg h4, decide_eq_false (by unfold May; omega)]
    · rw [if_neg (by simpa using h2), decide_eq_false (by unfold May; omega)]
  · rw [if_neg (by simpa using h1), decide_eq_false (by unfold May; omega)]
theorem rmay_ev (p : S51) : remontoirref18_May.f p.f0 p.f1 p.f2 = some (decide (May p)) := by
  unfold remontoirref18_May.f
  by_cases h1 : p.f0 ≥ 0
  · rw [if_pos h1]
    by_cases h2 : p.f0 < 4
    · rw [if_pos h2]
      by_cases h3 : p.f1 ≥ 0
      · rw [if_pos h3]
        by_cases h4 : p.f1 < 4
        · rw [if_pos h4]
          by_cases h5 : p.f1 = p.f0
          · rw [if_pos h5, decide_eq_false (by unfold May; omega)]
          · rw [if_neg h5]
            by_cases h6 : p.f2 > 0
            · rw [if_pos h6]; congr 1; apply Bool.eq_iff_iff.2; rw [decide_eq_true_iff, decide_eq_true_iff]; unfold May; omega
            · rw [if_neg h6, decide_eq_false (by unfold May; omega)]
        · rw [if_neg h4, decide_eq_false (by unfold May; omega)]
      · rw [if_neg h3, decide_eq_false (by unfold May; omega)]
    · rw [if_neg h2, decide_eq_false (by unfold May; omega)]
  · rw [if_neg h1, decide_eq_false (by unfold May; omega)]
/-- May a line be? -/
def Ok1 (x : S76) : Prop := May x.f0 ∧ Rg x.f1.f0 x.f1.f1 x.f1.f2 ∧ Rg x.f2.f0 x.f2.f1 x.f2.f2 ∧ (x.f1.f0.length : Int) = x.f0.f2 ∧ (x.f2.f0.length : Int) = x.f0.f2
instance (x : S76) : Decidable (Ok1 x) := by unfold Ok1; infer_instance
/-- May lines be? -/
def OkL (l : List S76) : Prop := (∀ x ∈ l, Ok1 x) ∧ l.length ≤ 4
instance (l : List S76) : Decidable (OkL l) := by unfold OkL; infer_instance
theorem rd76_get (l : List S76) (i : Nat) (h : i < l.length) : rd_T76 l (i : Int) = l[i] := by
  unfold rd_T76; rw [Int.toNat_natCast, List.getD_eq_getElem?_getD, List.getElem?_eq_getElem h]; rfl
theorem rd63_get (l : List S63) (i : Nat) (h : i < l.length) : rd_T63 l (i : Int) = l[i] := by
  unfold rd_T63; rw [Int.toNat_natCast, List.getD_eq_getElem?_getD, List.getElem?_eq_getElem h]; rfl
theorem right_l0 (l : List S76) (hl : l.length ≤ 1000) (d : Nat) : ∀ (k i : Nat), i + d = l.length → d + 1 ≤ k →
    port_Right.l0 k l l (l.length : Int) (i : Int) = some (decide ((∀ x ∈ l.drop i, Ok1 x) ∧ l.length ≤ 4)) := by
  induction d with
  | zero =>
    intro k i hi hk
    obtain ⟨k, rfl⟩ : ∃ j, k = j + 1 := ⟨k - 1, by omega⟩
    rw [port_Right.l0, if_neg (by omega), List.drop_eq_nil_of_le (by omega)]
    congr 1; apply Bool.eq_iff_iff.2; rw [decide_eq_true_iff, decide_eq_true_iff]; simp; omega
  | succ d ih =>
    intro k i hi hk
    obtain ⟨k, rfl⟩ : ∃ j, k = j + 1 := ⟨k - 1, by omega⟩
    rw [port_Right.l0, if_pos (by omega), if_pos (by omega), if_pos (by omega), rd76_get l i (by omega), may_ev, Option.bind_some,
      List.drop_eq_getElem_cons (show i < l.length by omega), w64 (n := (i : Int) + 1) (by omega) (by omega), show (i : Int) + 1 = ((i + 1 : Nat) : Int) by omega, ih k (i + 1) (by omega) (by omega)]
    have key : (∀ x ∈ l[i] :: l.drop (i + 1), Ok1 x) ↔ Ok1 l[i] ∧ ∀ x ∈ l.drop (i + 1), Ok1 x := List.forall_mem_cons
    by_cases h1 : May l[i].f0
    · rw [if_pos (by simpa using h1), right_ev, Option.bind_some]
      by_cases h2 : Rg l[i].f1.f0 l[i].f1.f1 l[i].f1.f2
      · rw [if_pos (by simpa using h2), right_ev, Option.bind_some]
        by_cases h3 : Rg l[i].f2.f0 l[i].f2.f1 l[i].f2.f2
        · rw [if_pos (by simpa using h3)]
          by_cases h4 : (l[i].f1.f0.length : Int) = l[i].f0.f2
          · rw [if_pos h4]
            by_cases h5 : (l[i].f2.f0.length : Int) = l[i].f0.f2
            · rw [if_pos h5]; congr 1; apply Bool.eq_iff_iff.2; rw [decide_eq_true_iff, decide_eq_true_iff, key]
              exact ⟨fun q => ⟨⟨⟨h1, h2, h3, h4, h5⟩, q.1⟩, q.2⟩, fun q => ⟨q.1.2, q.2⟩⟩
            · rw [if_neg h5, decide_eq_false]; rw [key]; exact fun q => h5 q.1.1.2.2.2.2
          · rw [if_neg h4, decide_eq_false]; rw [key]; exact fun q => h4 q.1.1.2.2.2.1
        · rw [if_neg (by simpa using h3), decide_eq_false]; rw [key]; exact fun q => h3 q.1.1.2.2.1
      · rw [if_neg (by simpa using h2), decide_eq_false]; rw [key]; exact fun q => h2 q.1.1.2.1
    · rw [if_neg (by simpa using h1), decide_eq_false]; rw [key]; exact fun q => h1 q.1.1.1
theorem portRight_ev (l : List S76) (hl : l.length ≤ 1000) (k : Nat) (hk : l.length + 1 ≤ k) : port_Right.f k l = some (decide (OkL l)) := by
  unfold port_Right.f OkL
  have := right_l0 l hl l.length k 0 (by omega) hk
  exact this
theorem lright_l0 (l : List S76) (hl : l.length ≤ 1000) (d : Nat) : ∀ (k i : Nat), i + d = l.length → 2 * d + 1 ≤ k → (∀ x ∈ l, x.f1.f0.length ≤ 100 ∧ x.f2.f0.length ≤ 100) →
    remontoirlaw18_right.l0 k l (i : Int) = some (decide ((∀ x ∈ l.drop i, Ok1 x) ∧ l.length ≤ 4)) := by
  induction d with
  | zero =>
    intro k i hi hk _
    obtain ⟨k, rfl⟩ : ∃ j, k = j + 1 := ⟨k - 1, by omega⟩
    rw [remontoirlaw18_right.l0, if_neg (by omega), List.drop_eq_nil_of_le (by omega)]
    congr 1; apply Bool.eq_iff_iff.2; rw [decide_eq_true_iff, decide_eq_true_iff]; simp; omega
  | succ d ih =>
    intro k i hi hk hb
    obtain ⟨k, rfl⟩ : ∃ j, k = j + 2 := ⟨k - 2, by omega⟩
    have hbi := hb l[i] (List.getElem_mem _)
    have hF : ∀ b : Bool, remontoirlaw18_right.j1 (k + 1) l (i : Int) b = if b = true then some false else remontoirlaw18_right.l0 k l ((i + 1 : Nat) : Int) := by
      intro b
      rw [remontoirlaw18_right.j1, w64 (n := (i : Int) + 1) (by omega) (by omega), show (i : Int) + 1 = ((i + 1 : Nat) : Int) by omega]
    rw [remontoirlaw18_right.l0, if_pos (by omega), if_pos (by omega), rd76_get l i (by omega), as_ev, Option.bind_some, as_ev, Option.bind_some, rmay_ev, Option.bind_some,
      List.drop_eq_getElem_cons (show i < l.length by omega)]
    simp only [hF, ih k (i + 1) (by omega) (by omega) hb]
    have key : (∀ x ∈ l[i] :: l.drop (i + 1), Ok1 x) ↔ Ok1 l[i] ∧ ∀ x ∈ l.drop (i + 1), Ok1 x := List.forall_mem_cons
    by_cases h1 : May l[i].f0
    · rw [if_pos (by simpa using h1), rright_ev _ hbi.1, Option.bind_some]
      by_cases h2 : Rg l[i].f1.f0 l[i].f1.f1 l[i].f1.f2
      · rw [if_pos (by simpa using h2), rright_ev _ hbi.2, Option.bind_some]
        by_cases h3 : Rg l[i].f2.f0 l[i].f2.f1 l[i].f2.f2
        · rw [if_pos (by simpa using h3)]
          by_cases h4 : (l[i].f1.f0.length : Int) = l[i].f0.f2
          · rw [if_pos h4]
            by_cases h5 : (l[i].f2.f0.length : Int) = l[i].f0.f2
            · rw [if_neg (by simpa using h5)]; congr 1; apply Bool.eq_iff_iff.2; rw [decide_eq_true_iff, decide_eq_true_iff, key]
              exact ⟨fun q => ⟨⟨⟨h1, h2, h3, h4, h5⟩, q.1⟩, q.2⟩, fun q => ⟨q.1.2, q.2⟩⟩
            · rw [if_pos (by simpa using h5), decide_eq_false]; rw [key]; exact fun q => h5 q.1.1.2.2.2.2
          · rw [if_neg h4, if_pos trivial, decide_eq_false]; rw [key]; exact fun q => h4 q.1.1.2.2.2.1
        · rw [if_neg (by simpa using h3), if_pos trivial, decide_eq_false]; rw [key]; exact fun q => h3 q.1.1.2.2.1
      · rw [if_neg (by simpa using h2), if_pos trivial, decide_eq_false]; rw [key]; exact fun q => h2 q.1.1.2.1
    · rw [if_neg (by simpa using h1), if_pos trivial, decide_eq_false]; rw [key]; exact fun q => h1 q.1.1.1
theorem lright_ev (l : List S76) (hl : l.length ≤ 1000) (hb : ∀ x ∈ l, x.f1.f0.length ≤ 100 ∧ x.f2.f0.length ≤ 100) (k : Nat) (hk : 2 * l.length + 1 ≤ k) : remontoirlaw18_right.f k l = some (decide (OkL l)) := by
  unfold remontoirlaw18_right.f OkL
  have := lright_l0 l hl l.length k 0 (by omega) hk hb
  exact this
theorem ok_small {l : List S76} (h : OkL l) : ∀ x ∈ l, x.f1.f0.length ≤ 100 ∧ x.f2.f0.length ≤ 100 := by
  intro x hx
  obtain ⟨⟨_, _, _, _, _, _, hm⟩, _, _, h4, h5⟩ := h.1 x hx
  omega
/-- Not great: what is looked at is small. -/
theorem great_ev (l : List S76) (hl : l.length ≤ 9223372036854775807) (d : Nat) : ∀ (k i : Nat), i + d = l.length → d + 1 ≤ k →
    ∃ b, remontoirlaw18_great.l0 k l (i : Int) = some b ∧ (b = false → l.length ≤ 20 ∧ ∀ x ∈ l.drop i, x.f1.f0.length ≤ 20 ∧ x.f2.f0.length ≤ 20) := by
  induction d with
  | zero =>
    intro k i hi hk
    obtain ⟨k, rfl⟩ : ∃ j, k = j + 1 := ⟨k - 1, by omega⟩
    rw [remontoirlaw18_great.l0, if_neg (by omega), List.drop_eq_nil_of_le (by omega)]
    refine ⟨_, rfl, fun h => ⟨?_, by simp⟩⟩
    have := of_decide_eq_false h; omega
  | succ d ih =>
    intro k i hi hk
    obtain ⟨k, rfl⟩ : ∃ j, k = j + 1 := ⟨k - 1, by omega⟩
    rw [remontoirlaw18_great.l0, if_pos (by omega), if_pos (by omega), rd76_get l i (by omega),
      List.drop_eq_getElem_cons (show i < l.length by omega)]
    by_cases h1 : (l[i].f1.f0.length : Int) > 20
    · rw [if_pos h1]; exact ⟨true, rfl, fun h => by cases h⟩
    · rw [if_neg h1]
      by_cases h2 : (l[i].f2.f0.length : Int) > 20
      · rw [if_pos h2]; exact ⟨true, rfl, fun h => by cases h⟩
      · rw [if_neg h2, w64 (n := (i : Int) + 1) (by omega) (by omega), show (i : Int) + 1 = ((i + 1 : Nat) : Int) by omega]
        obtain ⟨b, e, hb⟩ := ih k (i + 1) (by omega) (by omega)
        refine ⟨b, e, fun h => ⟨(hb h).1, ?_⟩⟩
        intro x hx
        rcases List.mem_cons.1 hx with rfl | hx
        · omega
        · exact (hb h).2 x hx
theorem stays_l0 (l : List S76) (hl : l.length ≤ 1000) (hb : ∀ x ∈ l, x.f1.f0.length ≤ 100 ∧ x.f2.f0.length ≤ 100) (d : Nat) : ∀ (k i : Nat), i + d = l.length → d + 200 ≤ k →
    remontoirlaw18_stays.l0 k l l (i : Int) = some true := by
  induction d with
  | zero =>
    intro k i hi hk
    obtain ⟨k, rfl⟩ : ∃ j, k = j + 1 := ⟨k - 1, by omega⟩
    rw [remontoirlaw18_stays.l0, if_neg (by omega)]
  | succ d ih =>
    intro k i hi hk
    obtain ⟨k, rfl⟩ : ∃ j, k = j + 1 := ⟨k - 1, by omega⟩
    have hbi := hb l[i] (List.getElem_mem _)
    rw [remontoirlaw18_stays.l0, if_pos (by omega), if_pos (by omega), if_pos (by omega), if_neg (by simp), rd76_get l i (by omega), as_ev, Option.bind_some, Option.bind_some,
      sameR_ev _ _ (by dsimp only; omega) _ _ _ _ _ (by dsimp only; omega), Option.bind_some, if_pos (by simp), as_ev, Option.bind_some, Option.bind_some, sameR_ev _ _ (by dsimp only; omega) _ _ _ _ _ (by dsimp only; omega), Option.bind_some, if_pos (by simp),
      w64 (by omega) (by omega), show (i : Int) + 1 = ((i + 1 : Nat) : Int) by omega]
    exact ih k (i + 1) (by omega) (by omega)
theorem stays_ev (l : List S76) (hl : l.length ≤ 1000) (hb : ∀ x ∈ l, x.f1.f0.length ≤ 100 ∧ x.f2.f0.length ≤ 100) (k : Nat) (hk : l.length + 200 ≤ k) : remontoirlaw18_stays.f k l l = some true := by
  unfold remontoirlaw18_stays.f
  rw [if_pos rfl]
  exact stays_l0 l hl hb l.length k 0 (by omega) hk
theorem lsame_l0 (l : List S63) (hl : l.length ≤ 1000) (hb : ∀ x ∈ l, x.f1.length ≤ 100 ∧ x.f2.length ≤ 100) (d : Nat) : ∀ (k i : Nat), i + d = l.length → d + 200 ≤ k →
    remontoirlaw18_Same.l0 k l l (i : Int) = some true := by
  induction d with
  | zero =>
    intro k i hi hk
    obtain ⟨k, rfl⟩ : ∃ j, k = j + 1 := ⟨k - 1, by omega⟩
    rw [remontoirlaw18_Same.l0, if_neg (by omega)]
  | succ d ih =>
    intro k i hi hk
    obtain ⟨k, rfl⟩ : ∃ j, k = j + 1 := ⟨k - 1, by omega⟩
    have hbi := hb l[i] (List.getElem_mem _)
    rw [remontoirlaw18_Same.l0, if_pos (by omega), if_pos (by omega), if_pos (by omega), if_neg (by simp), rd63_get l i (by omega), same_ev _ _ (by omega) _ (by omega), Option.bind_some, if_pos (by simp),
      same_ev _ _ (by omega) _ (by omega), Option.bind_some, if_pos (by simp), w64 (by omega) (by omega), show (i : Int) + 1 = ((i + 1 : Nat) : Int) by omega]
    exact ih k (i + 1) (by omega) (by omega)
theorem lsame_ev (l : List S63) (hl : l.length ≤ 1000) (hb : ∀ x ∈ l, x.f1.length ≤ 100 ∧ x.f2.length ≤ 100) (k : Nat) (hk : l.length + 200 ≤ k) : remontoirlaw18_Same.f k l l = some true := by
  unfold remontoirlaw18_Same.f
  rw [if_pos rfl]
  exact lsame_l0 l hl hb l.length k 0 (by omega) hk
/-- A line as two rows of messages. -/
def asRow (x : S76) : S63 := ⟨x.f0, msgs x.f1.f0 x.f1.f1.toNat x.f1.f2.toNat, msgs x.f2.f0 x.f2.f1.toNat x.f2.f2.toNat⟩
theorem lAs_l0 (l : List S76) (h : OkL l) (d : Nat) : ∀ (k i : Nat), i + d = l.length → d + 300 ≤ k →
    remontoirlaw18_As.l0 k l ((l.take i).map asRow) (i : Int) = some (l.map asRow) := by
  have hl := h.2
  induction d with
  | zero =>
    intro k i hi hk
    obtain ⟨k, rfl⟩ : ∃ j, k = j + 1 := ⟨k - 1, by omega⟩
    rw [remontoirlaw18_As.l0, if_neg (by omega), List.take_of_length_le (by omega)]
  | succ d ih =>
    intro k i hi hk
    obtain ⟨k, rfl⟩ : ∃ j, k = j + 1 := ⟨k - 1, by omega⟩
    have hbi := ok_small h l[i] (List.getElem_mem _)
    have ho := h.1 l[i] (List.getElem_mem _)
    rw [remontoirlaw18_As.l0, if_pos (by omega), if_pos (by omega), rd76_get l i (by omega), list_ev _ hbi.1 _ _ _ (by omega), if_pos ho.2.1, Option.bind_some, list_ev _ hbi.2 _ _ _ (by omega), if_pos ho.2.2.1, Option.bind_some,
      if_pos (by simp; omega), w64 (by omega) (by omega), show (i : Int) + 1 = ((i + 1 : Nat) : Int) by omega]
    have := ih k (i + 1) (by omega) (by omega)
    rw [List.take_succ_eq_append_getElem (by omega), List.map_append] at this
    exact this
theorem lAs_ev (l : List S76) (h : OkL l) (k : Nat) (hk : 400 ≤ k) : remontoirlaw18_As.f k l = some (l.map asRow) := by
  unfold remontoirlaw18_As.f
  have := lAs_l0 l h l.length k 0 (by omega) (by have := h.2; omega)
  simpa using this
theorem pwith_ev (l : List S76) (hl : l.length ≤ 1000) (i : Nat) (hi : i < l.length) (x : S76) :
    port_with.f l (i : Int) x.f0.f0 x.f0.f1 x.f0.f2 x.f1.f0 x.f1.f1 x.f1.f2 x.f2.f0 x.f2.f1 x.f2.f2 = some (l.set i x) := by
  unfold port_with.f
  rw [Option.bind_some, if_pos (by simp; omega), Option.bind_some, if_pos (by omega), if_pos (by simp; omega)]
  simp
/-- A ring with a message more; a ring without its first. -/
def pushR (r : S24) (v : Int) : S24 := ⟨r.f0.set (place r.f0 r.f1.toNat r.f2.toNat) v, r.f1, r.f2 + 1⟩
def popR (r : S24) : S24 := ⟨r.f0, ((place r.f0 r.f1.toNat 1 : Nat) : Int), r.f2 - 1⟩
theorem pushR_rg (r : S24) (v : Int) (h : Rg r.f0 r.f1 r.f2) (hm : r.f2 ≠ r.f0.length) : Rg (pushR r v).f0 (pushR r v).f1 (pushR r v).f2 ∧ (pushR r v).f0.length = r.f0.length := by
  unfold Rg at *
  simp only [pushR, List.length_set, and_true]
  omega
theorem popR_rg (r : S24) (h : Rg r.f0 r.f1 r.f2) (hm : r.f2 ≠ 0) : Rg (popR r).f0 (popR r).f1 (popR r).f2 ∧ (popR r).f0.length = r.f0.length := by
  unfold Rg at *
  have := place_lt r.f0 (by omega) r.f1.toNat 1
  simp only [popR, and_true]
  omega
theorem pushR_msgs (r : S24) (v : Int) (h : Rg r.f0 r.f1 r.f2) (hm : r.f2 ≠ r.f0.length) : msgs (pushR r v).f0 (pushR r v).f1.toNat (pushR r v).f2.toNat = msgs r.f0 r.f1.toNat r.f2.toNat ++ [v] := by
  unfold Rg at h
  rw [pushR]; dsimp only
  rw [show (r.f2 + 1).toNat = r.f2.toNat + 1 by omega]
  exact msgs_push _ _ _ _ (by omega) (by omega)
theorem popR_msgs (r : S24) (h : Rg r.f0 r.f1 r.f2) (hm : r.f2 ≠ 0) : msgs r.f0 r.f1.toNat r.f2.toNat = rd r.f0 r.f1 :: msgs (popR r).f0 (popR r).f1.toNat (popR r).f2.toNat := by
  unfold Rg at h
  rw [popR]; dsimp only
  obtain ⟨a, e⟩ : ∃ a : Nat, r.f1 = a := ⟨r.f1.toNat, by omega⟩
  rw [show r.f2.toNat = (r.f2 - 1).toNat + 1 by omega, e, Int.toNat_natCast, msgs_pop _ _ _ (by omega)]
  rfl
theorem asRow_len {x : S76} (h : Ok1 x) : (asRow x).f1.length = x.f1.f2.toNat ∧ (asRow x).f2.length = x.f2.f2.toNat ∧ (asRow x).f1.length ≤ 4 ∧ (asRow x).f2.length ≤ 4 := by
  obtain ⟨⟨_, _, _, _, _, _, hm⟩, h2, h3, h4, h5⟩ := h
  unfold Rg at h2 h3
  simp only [asRow, msgs_length, true_and]
  omega
theorem okL_set {l : List S76} (h : OkL l) (i : Nat) {x : S76} (hx : Ok1 x) : OkL (l.set i x) := by
  refine ⟨?_, by simpa using h.2⟩
  intro y hy
  rcases List.mem_or_eq_of_mem_set hy with hy | rfl
  · exact h.1 y hy
  · exact hx
theorem rows_small {l : List S76} (h : OkL l) : ∀ x ∈ l.map asRow, x.f1.length ≤ 100 ∧ x.f2.length ≤ 100 := by
  intro x hx
  obtain ⟨y, hy, rfl⟩ := List.mem_map.1 hx
  have := asRow_len (h.1 y hy)
  omega
end Go.Proofs.Yteddflcloeelhaa.PortLem
