/- What the functions of package supply, and of its reference, come to: lemmas for the statements of layer 12. No condition. -/
import Derived.Test.YtkfkghnmbemdiaaZFSynthx0
import Derived.Test.YtkfkghnmbemdiaaZFSynthx2
import Derived.Test.YtkfkghnmbemdiaaZFSynthx3
import Derived.Test.YtkfkghnmbemdiaaZFSynthx4
import Derived.Test.YtkfkghnmbemdiaaZFSynthx5
import Derived.Test.YtkfkghnmbemdiaaZFSynthx6
import Derived.Test.YtkfkghnmbemdiaaZFSynthx7
import Derived.Test.YtkfkghnmbemdiaaZFSynthx9
import Derived.Test.YtkfkghnmbemdiaaZFSynthx10
import Derived.Test.YtkfkghnmbemdiaaZSupplyMath
namespace Go.Proofs.Ytkfkghnmbemdiaa.SynthSupp
open Go.RowKit Go.Proofs.Ytkfkghnmbemdiaa.FSynth Go.Proofs.YtkfkghnmbemdiaaW.PrintWords Go.Proofs.YtkfkghnmbemdiaaW.PrintLast Go.Proofs.YtkfkghnmbemdiaaW.PrintMore Go.Proofs.Ytkfkghnmbemdiaa.SupplyMath
set_option linter.unusedSimpArgs false
set_option linter.unusedVariables false
theorem w64 {n : Int} (h1 : -9223372036854775808 ≤ n) (h2 : n ≤ 9223372036854775807) : wrap64 n = n := by unfold wrap64; omega
theorem wf64 {a : Int} (h : (Lit.int .i64 a).wf = true) : -9223372036854775808 ≤ a ∧ a ≤ 9223372036854775807 := by
  simp [Lit.wf, IntKind.min, IntKind.max, IntKind.signed, IntKind.bits] at h
  omega
theorem right_ev (P B : Int) : supply_Right.f P B = some (decide (Rt P B)) := by
  unfold supply_Right.f
  by_cases h1 : B ≥ 1
  · rw [if_pos h1]
    by_cases h2 : B ≤ P
    · rw [if_pos h2]; congr 1; apply Bool.eq_iff_iff.2; rw [decide_eq_true_iff, decide_eq_true_iff]; unfold Rt; omega
    · rw [if_neg h2, decide_eq_false (by unfold Rt; omega)]
  · rw [if_neg h1, decide_eq_false (by unfold Rt; omega)]
theorem rright_ev (P B : Int) : remontoirref09_Right.f P B = some (decide (Rt P B)) := by
  unfold remontoirref09_Right.f
  by_cases h0 : P ≥ 1
  · rw [if_pos h0]
    by_cases h1 : P ≤ 200
    · rw [if_pos h1]
      by_cases h2 : B ≥ 1
      · rw [if_pos h2]; congr 1; apply Bool.eq_iff_iff.2; rw [decide_eq_true_iff, decide_eq_true_iff]; unfold Rt; omega
      · rw [if_neg h2, decide_eq_false (by unfold Rt; omega)]
    · rw [if_neg h1, decide_eq_false (by unfold Rt; omega)]
  · rw [if_neg h0, decide_eq_false (by unfold Rt; omega)]
theorem worst_ev (P B tick : Int) (h : Rt P B) (h0 : 0 ≤ tick) : remontoirref09_Worst.f P B tick = some (Worst P B tick) := by
  unfold Rt at h
  unfold remontoirref09_Worst.f Worst
  split
  · rfl
  · rw [if_neg (by omega), Int.tmod_eq_emod_of_nonneg h0, w64 (by omega) (by omega)]
theorem rbound_l0 (P B t : Int) (h : Rt P B) (ht : t ≤ 5000) (d : Nat) : ∀ (k : Nat) (i : Nat), (i : Int) + d = t → d + 1 ≤ k →
    remontoirref09_Bound.l0 k t (cnt (fun i => Worst P B (B + i)) i) (B + i) P B = some (cnt (fun i => Worst P B (B + i)) t.toNat) := by
  have h' := h
  unfold Rt at h'
  induction d with
  | zero =>
    intro k i hi hk
    obtain ⟨k, rfl⟩ : ∃ m, k = m + 1 := ⟨k - 1, by omega⟩
    rw [remontoirref09_Bound.l0, w64 (n := B + t) (by omega) (by omega), if_neg (by omega), show t.toNat = i by omega]
  | succ d ih =>
    intro k i hi hk
    obtain ⟨k, rfl⟩ : ∃ m, k = m + 1 := ⟨k - 1, by omega⟩
    rw [remontoirref09_Bound.l0, w64 (n := B + t) (by omega) (by omega), if_pos (by omega), worst_ev P B _ h (by omega), Option.bind_some]
    have hc := cnt_between (fun i => Worst P B (B + i)) (Nat.zero_le i)
    simp only [cnt] at hc
    have hn := ih k (i + 1) (by omega) (by omega)
    rw [cnt_succ] at hn
    rw [w64 (n := B + i + 1) (by omega) (by omega)]
    rw [show (B + ((i + 1 : Nat) : Int)) = B + i + 1 by omega] at hn
    by_cases hw : Worst P B (B + i) = true
    · rw [if_pos hw, w64 (by omega) (by omega)]
      rw [if_pos hw] at hn
      exact hn
    · rw [if_neg hw]
      rw [if_neg hw, Int.add_zero] at hn
      exact hn
theorem rbound_ev (P B t : Int) (h : Rt P B) (h0 : 0 ≤ t) (ht : t ≤ 5000) (k : Nat) (hk : t.toNat + 1 ≤ k) : remontoirref09_Bound.f k P B t = some (SB P B t) := by
  unfold remontoirref09_Bound.f
  have := rbound_l0 P B t h ht t.toNat k 0 (by omega) hk
  simp only [cnt, Int.natCast_zero, Int.add_zero] at this
  have e := SB_count h t.toNat
  rw [show ((t.toNat : Nat) : Int) = t by omega] at e
  rw [e]
  exact this
/-- A row's ticks. -/
def fl (l : List Bool) (i : Nat) : Bool := l.getD i false
theorem rd_fl (l : List Bool) (i : Int) : rdOf false l i = fl l i.toNat := rfl
theorem count_l0 (l : List Bool) (hl : l.length ≤ 100000) (d : Nat) : ∀ (k : Nat) (i : Nat) (x : Int), i + d = l.length → 0 ≤ x → x ≤ i → d + 1 ≤ k →
    supply_count.l0 k x l (l.length : Int) (i : Int) = some (x + (cnt (fl l) l.length - cnt (fl l) i)) := by
  induction d with
  | zero =>
    intro k i x hi h0 hx hk
    obtain ⟨k, rfl⟩ : ∃ m, k = m + 1 := ⟨k - 1, by omega⟩
    rw [supply_count.l0, if_neg (by omega), show i = l.length by omega]
    congr 1; omega
  | succ d ih =>
    intro k i x hi h0 hx hk
    obtain ⟨k, rfl⟩ : ∃ m, k = m + 1 := ⟨k - 1, by omega⟩
    rw [supply_count.l0, if_pos (by omega), if_pos (by omega), if_pos (by omega), rd_fl, w64 (n := (i : Int) + 1) (by omega) (by omega), show (i : Int).toNat = i by omega]
    have e : ((i : Int) + 1) = ((i + 1 : Nat) : Int) := by omega
    rw [e]
    have hs := cnt_succ (fl l) i
    by_cases hw : fl l i = true
    · rw [if_pos hw] at hs
      rw [if_pos hw, w64 (by omega) (by omega), ih k (i + 1) (x + 1) (by omega) (by omega) (by omega) (by omega)]
      congr 1; omega
    · rw [if_neg hw] at hs
      rw [if_neg hw, ih k (i + 1) x (by omega) (by omega) (by omega) (by omega)]
      congr 1; omega
theorem count_ev (l : List Bool) (hl : l.length ≤ 100000) (k : Nat) (hk : l.length + 1 ≤ k) : supply_count.f k l = some (cnt (fl l) l.length) := by
  unfold supply_count.f
  have := count_l0 l hl l.length k 0 0 (by omega) (by omega) (by omega) (by omega)
  simpa [cnt] using this
theorem count_cut (l : List Bool) (hl : l.length ≤ 100000) (a b : Nat) (hab : a ≤ b) (hb : b ≤ l.length) (k : Nat) (hk : b - a + 1 ≤ k) : supply_count.f k ((l.take b).drop a) = some (cnt (fl l) b - cnt (fl l) a) := by
  have hlen : ((l.take b).drop a).length = b - a := by rw [List.length_drop, List.length_take]; omega
  rw [count_ev _ (by omega) k (by omega), hlen]
  congr 1
  have e : cnt (fl ((l.take b).drop a)) (b - a) = cnt (fun i => fl l (a + i)) (b - a) := by
    apply cnt_congr
    intro i hi
    unfold fl
    rw [List.getD_eq_getElem?_getD, List.getD_eq_getElem?_getD, List.getElem?_drop, List.getElem?_take_of_lt (by omega)]
  rw [e, cnt_shift, show a + (b - a) = b by omega]
/-- Each whole period has its budget. -/
def LgTo (P B : Int) (l : List Bool) : Prop := ∀ j : Nat, (j + 1) * P.toNat ≤ l.length → B ≤ cnt (fl l) ((j + 1) * P.toNat) - cnt (fl l) (j * P.toNat)
open Classical in
theorem legal_l0 (P B : Int) (h : Rt P B) (l : List Bool) (hl : l.length ≤ 100000) (d : Nat) : ∀ (k : Nat) (j : Nat), l.length + 200 - j * P.toNat = d → j * P.toNat ≤ l.length + 200 → d + 500 ≤ k →
    supply_Legal.l0 k l ((j * P.toNat : Nat) : Int) P B = some (decide (∀ i : Nat, j ≤ i → (i + 1) * P.toNat ≤ l.length → B ≤ cnt (fl l) ((i + 1) * P.toNat) - cnt (fl l) (i * P.toNat))) := by
  have h' := h
  unfold Rt at h'
  induction d using Nat.strongRecOn with
  | _ d ih =>
    intro k j hj hj2 hk
    obtain ⟨k, rfl⟩ : ∃ m, k = m + 1 := ⟨k - 1, by omega⟩
    have e1 : ((j * P.toNat : Nat) : Int) + P = (((j + 1) * P.toNat : Nat) : Int) := by rw [Nat.add_mul]; omega
    have e2 : (j + 1) * P.toNat = j * P.toNat + P.toNat := by rw [Nat.add_mul]; omega
    rw [supply_Legal.l0, e1, w64 (by omega) (by omega)]
    by_cases hlt : ((((j + 1) * P.toNat : Nat) : Int)) ≤ (l.length : Int)
    · rw [if_pos hlt, if_pos (by omega), if_pos (by omega)]
      rw [show ((((j + 1) * P.toNat : Nat) : Int)).toNat = (j + 1) * P.toNat by omega, show (((j * P.toNat : Nat) : Int)).toNat = j * P.toNat by omega]
      rw [count_cut l hl _ _ (by omega) (by omega) k (by omega), Option.bind_some]
      by_cases hc : cnt (fl l) ((j + 1) * P.toNat) - cnt (fl l) (j * P.toNat) < B
      · rw [if_pos hc, decide_eq_false]
        intro hall
        have := hall j (Nat.le_refl _) (by omega)
        omega
      · rw [if_neg hc, ih (l.length + 200 - (j + 1) * P.toNat) (by omega) k (j + 1) rfl (by omega) (by omega)]
        congr 1
        apply Bool.eq_iff_iff.2
        rw [decide_eq_true_iff, decide_eq_true_iff]
        constructor
        · intro hall i hi hi2
          by_cases hij : i = j
          · subst hij; omega
          · exact hall i (by omega) hi2
        · intro hall i hi hi2
          exact hall i (by omega) hi2
    · rw [if_neg hlt, decide_eq_true]
      intro i hi hi2
      have : (j + 1) * P.toNat ≤ (i + 1) * P.toNat := Nat.mul_le_mul_right _ (by omega)
      omega
open Classical in
theorem legal_ev (P B : Int) (l : List Bool) (hl : l.length ≤ 100000) (k : Nat) (hk : l.length + 800 ≤ k) : supply_Legal.f k P B l = some (decide (Rt P B ∧ LgTo P B l)) := by
  unfold supply_Legal.f
  rw [right_ev, Option.bind_some]
  by_cases h : Rt P B
  · rw [if_pos (by simpa using h)]
    have := legal_l0 P B h l hl _ k 0 rfl (by omega) (by omega)
    rw [Nat.zero_mul] at this
    rw [show (0 : Int) = ((0 : Nat) : Int) from rfl, this]
    congr 1
    apply Bool.eq_iff_iff.2
    rw [decide_eq_true_iff, decide_eq_true_iff]
    exact ⟨fun hall => ⟨h, fun j hj => hall j (Nat.zero_le _) hj⟩, fun hall i _ hi => hall.2 i hi⟩
  · rw [if_neg (by simpa using h), decide_eq_false (fun h' => h h'.1)]
/-- Each whole period from one on has its budget. -/
def LgFrom (p : Nat) (B : Int) (l : List Bool) (q : Nat) : Prop := ∀ j : Nat, q ≤ j → (j + 1) * p ≤ l.length → B ≤ cnt (fl l) ((j + 1) * p) - cnt (fl l) (j * p)
open Classical in
theorem rlegal_l0 (p : Nat) (B : Int) (h : Rt p B) (l : List Bool) (hl : l.length ≤ 100000) (d : Nat) : ∀ (k : Nat) (i : Nat), i + d = l.length → 2 * d + 1 ≤ k →
    remontoirref09_Legal.l0 k l (cnt (fl l) i - cnt (fl l) (i / p * p)) (i : Int) (p : Int) B = some (decide (LgFrom p B l (i / p))) := by
  have h' := h
  unfold Rt at h'
  have hp : 0 < p := by omega
  induction d with
  | zero =>
    intro k i hi hk
    obtain ⟨k, rfl⟩ : ∃ m, k = m + 1 := ⟨k - 1, by omega⟩
    rw [remontoirref09_Legal.l0, if_neg (by omega), decide_eq_true]
    intro j hj hj2
    have h1 := Nat.div_add_mod i p
    have h2 := Nat.mod_lt i hp
    have h3 : (i / p + 1) * p ≤ (j + 1) * p := Nat.mul_le_mul_right _ (by omega)
    rw [Nat.add_mul (i / p), Nat.mul_comm (i / p)] at h3
    omega
  | succ d ih =>
    intro k i hi hk
    obtain ⟨k, rfl⟩ : ∃ m, k = m + 2 := ⟨k - 2, by omega⟩
    have h1 := Nat.div_add_mod i p
    have h2 := Nat.mod_lt i hp
    have h3 := Nat.div_add_mod (i + 1) p
    have hmul : i / p * p ≤ i := by rw [Nat.mul_comm]; omega
    have hc := cnt_between (fl l) hmul
    have hcs := cnt_succ (fl l) i
    have hj1 : remontoirref09_Legal.j1 (k + 1) l (cnt (fl l) (i + 1) - cnt (fl l) (i / p * p)) (i : Int) (p : Int) B = some (decide (LgFrom p B l (i / p))) := by
      have hm : Int.tmod (i : Int) (p : Int) = ((i % p : Nat) : Int) := by rw [Int.tmod_eq_emod_of_nonneg (by omega)]; exact (Int.natCast_emod i p).symm
      rw [remontoirref09_Legal.j1, if_neg (by omega), hm, w64 (n := (p : Int) - 1) (by omega) (by omega), w64 (n := (i : Int) + 1) (by omega) (by omega)]
      by_cases he : ((i % p : Nat) : Int) = (p : Int) - 1
      · rw [if_pos he]
        have e1 : i + 1 = (i / p + 1) * p := by rw [Nat.add_mul, Nat.mul_comm (i / p)]; omega
        have e2 : (i + 1) / p = i / p + 1 := by rw [e1]; exact Nat.mul_div_cancel _ hp
        by_cases hb : cnt (fl l) (i + 1) - cnt (fl l) (i / p * p) < B
        · rw [if_pos hb, decide_eq_false]
          intro hall
          have := hall (i / p) (Nat.le_refl _) (by omega)
          rw [← e1] at this
          omega
        · rw [if_neg hb]
          have hn := ih k (i + 1) (by omega) (by omega)
          rw [e2, ← e1, Int.sub_self] at hn
          rw [show (i : Int) + 1 = ((i + 1 : Nat) : Int) by omega, hn]
          congr 1
          apply Bool.eq_iff_iff.2
          rw [decide_eq_true_iff, decide_eq_true_iff]
          constructor
          · intro hall j hj hj2
            by_cases hij : j = i / p
            · subst hij; rw [← e1]; omega
            · exact hall j (by omega) hj2
          · intro hall j hj hj2
            exact hall j (by omega) hj2
      · rw [if_neg he]
        have e2 : (i + 1) / p = i / p := by
          apply Nat.div_eq_of_lt_le
          · rw [Nat.mul_comm]; omega
          · rw [Nat.mul_comm, Nat.mul_add]; omega
        have hn := ih k (i + 1) (by omega) (by omega)
        rw [e2] at hn
        rw [show (i : Int) + 1 = ((i + 1 : Nat) : Int) by omega, hn]
    rw [remontoirref09_Legal.l0, if_pos (by omega), if_pos (by omega), rd_fl, show (i : Int).toNat = i by omega]
    by_cases hw : fl l i = true
    · rw [if_pos hw] at hcs
      rw [if_pos hw, w64 (by omega) (by omega), show cnt (fl l) i - cnt (fl l) (i / p * p) + 1 = cnt (fl l) (i + 1) - cnt (fl l) (i / p * p) by omega]
      exact hj1
    · rw [if_neg hw] at hcs
      rw [if_neg hw, show cnt (fl l) i - cnt (fl l) (i / p * p) = cnt (fl l) (i + 1) - cnt (fl l) (i / p * p) by omega]
      exact hj1
open Classical in
theorem rlegal_ev (P B : Int) (l : List Bool) (hl : l.length ≤ 100000) (k : Nat) (hk : 2 * l.length + 1 ≤ k) : remontoirref09_Legal.f k P B l = some (decide (Rt P B ∧ LgTo P B l)) := by
  unfold remontoirref09_Legal.f
  rw [rright_ev, Option.bind_some]
  by_cases h : Rt P B
  · rw [if_pos (by simpa using h)]
    have h' := h
    unfold Rt at h'
    obtain ⟨p, rfl⟩ : ∃ p : Nat, P = p := ⟨P.toNat, by omega⟩
    have := rlegal_l0 p B h l hl l.length k 0 (by omega) hk
    rw [Nat.zero_div, Nat.zero_mul, Int.sub_self] at this
    unfold LgFrom at this
    rw [show (0 : Int) = ((0 : Nat) : Int) from rfl, show ((0 : Nat) : Int) = (0 : Int) from rfl]
    refine Eq.trans this ?_
    congr 1
    apply Bool.eq_iff_iff.2
    rw [decide_eq_true_iff, decide_eq_true_iff]
    exact ⟨fun hall => ⟨h, fun j hj => hall j (Nat.zero_le _) hj⟩, fun hall i _ hi => hall.2 i hi⟩
  · rw [if_neg (by simpa using h), decide_eq_false (fun h' => h h'.1)]
/-- What a window of t ticks gives. -/
def W (l : List Bool) (t a : Nat) : Int := cnt (fl l) (a + t) - cnt (fl l) a
/-- The least of the windows up to one. -/
def IsMin (l : List Bool) (t m : Nat) (r : Int) : Prop := (∀ a, a ≤ m → r ≤ W l t a) ∧ ∃ a, a ≤ m ∧ r = W l t a
theorem IsMin.same {l : List Bool} {t m : Nat} {r q : Int} (h : IsMin l t m r) (h' : IsMin l t m q) : r = q := by
  obtain ⟨h1, a, ha, h2⟩ := h
  obtain ⟨h3, b, hb, h4⟩ := h'
  have := h1 b hb
  have := h3 a ha
  omega
theorem IsMin.zero (l : List Bool) (t : Nat) : IsMin l t 0 (W l t 0) := ⟨fun a ha => by rw [show a = 0 by omega]; exact Int.le_refl _, 0, Nat.le_refl _, rfl⟩
theorem IsMin.succ {l : List Bool} {t m : Nat} {r : Int} (h : IsMin l t m r) : IsMin l t (m + 1) (if W l t (m + 1) < r then W l t (m + 1) else r) := by
  obtain ⟨h1, a, ha, h2⟩ := h
  refine ⟨fun b hb => ?_, ?_⟩
  · by_cases hbm : b = m + 1
    · subst hbm; split <;> omega
    · have := h1 b (by omega); split <;> omega
  · by_cases hlt : W l t (m + 1) < r
    · exact ⟨m + 1, Nat.le_refl _, by rw [if_pos hlt]⟩
    · exact ⟨a, by omega, by rw [if_neg hlt]; exact h2⟩
theorem W_range (l : List Bool) (t a : Nat) : 0 ≤ W l t a ∧ W l t a ≤ t := by
  have := cnt_step (fl l) a t
  unfold W
  omega
theorem W_succ (l : List Bool) (t a : Nat) : W l t (a + 1) = W l t a + (if fl l (a + t) = true then 1 else 0) - (if fl l a = true then 1 else 0) := by
  unfold W
  rw [show a + 1 + t = a + t + 1 by omega, cnt_succ, cnt_succ]
  omega
theorem IsMin.range {l : List Bool} {t m : Nat} {r : Int} (h : IsMin l t m r) : 0 ≤ r ∧ r ≤ t := by
  obtain ⟨_, a, _, rfl⟩ := h
  exact W_range l t a
theorem least_l0 (l : List Bool) (hl : l.length ≤ 100000) (t : Nat) (ht : 1 ≤ t) (ht2 : t ≤ l.length) (d : Nat) : ∀ (k a : Nat) (r : Int), a + t + d = l.length → IsMin l t a r → d + 1 ≤ k →
    ∃ q, supply_Least.l0 k l (t : Int) (W l t a) r ((a + t : Nat) : Int) = some q ∧ IsMin l t (l.length - t) q := by
  induction d with
  | zero =>
    intro k a r ha hr hk
    obtain ⟨k, rfl⟩ : ∃ m, k = m + 1 := ⟨k - 1, by omega⟩
    refine ⟨r, ?_, by rw [show l.length - t = a by omega]; exact hr⟩
    rw [supply_Least.l0, if_neg (by omega)]
  | succ d ih =>
    intro k a r ha hr hk
    obtain ⟨k, rfl⟩ : ∃ m, k = m + 1 := ⟨k - 1, by omega⟩
    obtain ⟨q, hq, hm⟩ := ih k (a + 1) _ (by omega) hr.succ (by omega)
    refine ⟨q, ?_, hm⟩
    have hw := W_range l t a
    have hw1 := W_range l t (a + 1)
    have hs := W_succ l t a
    have em : ∀ x, mn r x = if x < r then x else r := fun x => rfl
    rw [supply_Least.l0, if_pos (by omega), if_pos (by omega), rd_fl, w64 (n := ((a + t : Nat) : Int) - t) (by omega) (by omega), w64 (n := ((a + t : Nat) : Int) + 1) (by omega) (by omega), rd_fl, show (((a + t : Nat) : Int)).toNat = a + t by omega, show (((a + t : Nat) : Int) - t).toNat = a by omega, if_pos (show 0 ≤ ((a + t : Nat) : Int) - t by omega), if_pos (show ((a + t : Nat) : Int) - t < l.length by omega)]
    rw [show (((a + 1 + t : Nat) : Int)) = ((a + t : Nat) : Int) + 1 by omega] at hq
    by_cases c1 : fl l (a + t) = true
    · rw [if_pos c1] at hs
      rw [if_pos c1]
      by_cases c2 : fl l a = true
      · rw [if_pos c2] at hs
        rw [if_pos c2, w64 (n := W l t a + 1) (by omega) (by omega), w64 (n := W l t a + 1 - 1) (by omega) (by omega), em, show W l t a + 1 - 1 = W l t (a + 1) by omega]
        exact hq
      · rw [if_neg c2] at hs
        rw [if_neg c2, w64 (n := W l t a + 1) (by omega) (by omega), em, show W l t a + 1 = W l t (a + 1) by omega]
        exact hq
    · rw [if_neg c1] at hs
      rw [if_neg c1]
      by_cases c2 : fl l a = true
      · rw [if_pos c2] at hs
        rw [if_pos (show 0 ≤ ((a + t : Nat) : Int) - t by omega), if_pos (show ((a + t : Nat) : Int) - t < l.length by omega), if_pos c2, w64 (n := W l t a - 1) (by omega) (by omega), em, show W l t a - 1 = W l t (a + 1) by omega]
        exact hq
      · rw [if_neg c2] at hs
        rw [if_pos (show 0 ≤ ((a + t : Nat) : Int) - t by omega), if_pos (show ((a + t : Nat) : Int) - t < l.length by omega), if_neg c2, em, show W l t a = W l t (a + 1) by omega]
        exact hq
/-- The least supply, as the program has it. -/
theorem least_ev (l : List Bool) (hl : l.length ≤ 100000) (t : Int) (k : Nat) (hk : 2 * l.length + 5 ≤ k) :
    if 1 ≤ t ∧ t ≤ l.length then ∃ r, supply_Least.f k l t = some r ∧ IsMin l t.toNat (l.length - t.toNat) r else supply_Least.f k l t = some 0 := by
  obtain ⟨k, rfl⟩ : ∃ m, k = m + 1 := ⟨k - 1, by omega⟩
  unfold supply_Least.f
  have hbad : supply_Least.j0 (k + 1) l t true = some 0 := by rw [supply_Least.j0, if_pos rfl]
  by_cases h1 : t < 1
  · rw [if_neg (by omega), if_pos h1, hbad]
  · rw [if_neg h1]
    by_cases h2 : t > (l.length : Int)
    · rw [if_neg (by omega), decide_eq_true h2, hbad]
    · rw [if_pos ⟨by omega, by omega⟩, decide_eq_false h2]
      obtain ⟨n, rfl⟩ : ∃ n : Nat, t = n := ⟨t.toNat, by omega⟩
      rw [Int.toNat_natCast]
      have hc := count_cut l hl 0 n (by omega) (by omega) k (by omega)
      rw [List.drop_zero] at hc
      have e : cnt (fl l) n - cnt (fl l) 0 = W l n 0 := by unfold W; rw [Nat.zero_add]
      rw [e] at hc
      obtain ⟨q, hq, hm⟩ := least_l0 l hl n (by omega) (by omega) (l.length - n) k 0 _ (by omega) (IsMin.zero l n) (by omega)
      rw [Nat.zero_add] at hq
      refine ⟨q, ?_, hm⟩
      rw [supply_Least.j0, if_neg (by simp), if_pos (by omega), if_pos (by omega), Int.toNat_natCast, hc, Option.bind_some]
      exact hq
end Go.Proofs.Ytkfkghnmbemdiaa.SynthSupp
