/- What the functions of package synth, and of its reference, come to: the frame, and whom each tick is given to: lemmas for the statements of layer 12. No condition. -/
import Derived.Test.YtkfkghnmbemdiaaTFSynthx0
import Derived.Test.YtkfkghnmbemdiaaTFSynthx2
import Derived.Test.YtkfkghnmbemdiaaTFSynthx3
import Derived.Test.YtkfkghnmbemdiaaTFSynthx4
import Derived.Test.YtkfkghnmbemdiaaTFSynthx5
import Derived.Test.YtkfkghnmbemdiaaTFSynthx6
import Derived.Test.YtkfkghnmbemdiaaTFSynthx7
import Derived.Test.YtkfkghnmbemdiaaTFSynthx8
import Derived.Test.YtkfkghnmbemdiaaTFSynthx9
import Derived.Test.YtkfkghnmbemdiaaTFSynthx10
import Derived.Test.YtkfkghnmbemdiaaTFSynthLemArith
namespace Go.Proofs.Ytkfkghnmbemdiaa.SynthLem
open Go.RowKit Go.Proofs.Ytkfkghnmbemdiaa.FSynth Go.Proofs.Ytkfkghnmbemdiaa.SynthArith Go.Proofs.YtkfkghnmbemdiaaW.PrintWords Go.Proofs.YtkfkghnmbemdiaaW.PrintLast Go.Proofs.YtkfkghnmbemdiaaW.PrintMore
set_option linter.unusedSimpArgs false
set_option linter.unusedVariables false
theorem wf_i64 {a : Int} (h : (Lit.int .i64 a).wf = true) : -9223372036854775808 ≤ a ∧ a ≤ 9223372036854775807 := (show IntKind.i64.min ≤ a ∧ a ≤ IntKind.i64.max by simpa [Lit.wf] using h)
/-! ### The frame -/
abbrev Pe (l : List S54) (i : Nat) : Int := (rd_T54 l (i : Int)).f0
abbrev Bu (l : List S54) (i : Nat) : Int := (rd_T54 l (i : Int)).f1
def RtI (l : List S54) (i : Nat) : Prop := 1 ≤ Bu l i ∧ Bu l i ≤ Pe l i ∧ Pe l i ≤ 200
instance (l : List S54) (i : Nat) : Decidable (RtI l i) := by unfold RtI; infer_instance
def RtAll (l : List S54) : Prop := ∀ i, i < l.length → RtI l i
theorem right_ev (l : List S54) (i : Nat) : supply_Right.f (Pe l i) (Bu l i) = some (decide (RtI l i)) := by
  unfold supply_Right.f
  by_cases c1 : Bu l i ≥ 1
  · rw [if_pos c1]
    by_cases c2 : Bu l i ≤ Pe l i
    · rw [if_pos c2]; congr 1; apply decide_eq_decide.2; unfold RtI; omega
    · rw [if_neg c2, decide_eq_false (by unfold RtI; omega)]
  · rw [if_neg c1, decide_eq_false (by unfold RtI; omega)]
theorem rright_ev (l : List S54) (i : Nat) : remontoirref09_Right.f (Pe l i) (Bu l i) = some (decide (RtI l i)) := by
  unfold remontoirref09_Right.f
  by_cases c0 : Pe l i ≥ 1
  · rw [if_pos c0]
    by_cases c2 : Pe l i ≤ 200
    · rw [if_pos c2]
      by_cases c1 : Bu l i ≥ 1
      · rw [if_pos c1]; congr 1; apply decide_eq_decide.2; unfold RtI; omega
      · rw [if_neg c1, decide_eq_false (by unfold RtI; omega)]
    · rw [if_neg c2, decide_eq_false (by unfold RtI; omega)]
  · rw [if_neg c0, decide_eq_false (by unfold RtI; omega)]
theorem L_nat {a b : Int} (ha : 1 ≤ a) (hb : 1 ≤ b) : L a b = (Nat.lcm a.toNat b.toNat : Int) := by
  obtain ⟨p, rfl⟩ : ∃ p : Nat, a = p := ⟨a.toNat, by omega⟩
  obtain ⟨q, rfl⟩ : ∃ q : Nat, b = q := ⟨b.toNat, by omega⟩
  unfold L G Nat.lcm
  rw [Int.toNat_natCast, Int.toNat_natCast, ← Int.natCast_ediv, ← Int.natCast_mul]
  congr 1
  obtain ⟨c, hc⟩ := Nat.gcd_dvd_left p q
  have hg : 0 < Nat.gcd p q := Nat.gcd_pos_of_pos_left _ (by omega)
  generalize Nat.gcd p q = g at *
  subst hc
  rw [Nat.mul_div_cancel_left _ hg, Nat.mul_assoc, Nat.mul_div_cancel_left _ hg]
theorem L_left {a b : Int} (ha : 1 ≤ a) (hb : 1 ≤ b) : a ∣ L a b := by
  rw [L_nat ha hb]
  have := Int.natCast_dvd_natCast.2 (Nat.dvd_lcm_left a.toNat b.toNat)
  rwa [Int.toNat_of_nonneg (by omega)] at this
theorem L_right {a b : Int} (ha : 1 ≤ a) (hb : 1 ≤ b) : b ∣ L a b := by
  rw [L_nat ha hb]
  have := Int.natCast_dvd_natCast.2 (Nat.dvd_lcm_right a.toNat b.toNat)
  rwa [Int.toNat_of_nonneg (by omega)] at this
theorem L_least {a b n : Int} (ha : 1 ≤ a) (hb : 1 ≤ b) (hn : 1 ≤ n) (h1 : a ∣ n) (h2 : b ∣ n) : L a b ∣ n := by
  rw [L_nat ha hb]
  obtain ⟨p, rfl⟩ : ∃ p : Nat, a = p := ⟨a.toNat, by omega⟩
  obtain ⟨q, rfl⟩ : ∃ q : Nat, b = q := ⟨b.toNat, by omega⟩
  obtain ⟨m, rfl⟩ : ∃ m : Nat, n = m := ⟨n.toNat, by omega⟩
  rw [Int.toNat_natCast, Int.toNat_natCast]
  exact Int.natCast_dvd_natCast.2 (Nat.lcm_dvd (Int.natCast_dvd_natCast.1 h1) (Int.natCast_dvd_natCast.1 h2))
theorem L_ge {a b : Int} (ha : 1 ≤ a) (hb : 1 ≤ b) : 1 ≤ L a b ∧ L a b ≤ a * b := by
  have h1 := G_pos (a := a) (b := b) ha
  have h2 := Int.ediv_le_self (G a b) (show 0 ≤ a by omega)
  have h3 : 1 ≤ a / G a b := by
    obtain ⟨c, hc⟩ := G_dvd_left (a := a) (b := b) (by omega)
    generalize G a b = g at *
    subst hc
    rw [Int.mul_ediv_cancel_left _ (by omega)]
    apply Classical.byContradiction
    intro h
    have : g * c ≤ 0 := Int.mul_nonpos_of_nonneg_of_nonpos (by omega) (by omega)
    omega
  unfold L
  refine ⟨?_, Int.mul_le_mul_of_nonneg_right h2 (by omega)⟩
  have := Int.mul_le_mul h3 hb (by omega) (by omega)
  omega
/-- All periods of the first ones divide. -/
def allP (l : List S54) (i : Nat) (n : Int) : Prop := ∀ j, j < i → Pe l j ∣ n
theorem frame_l1 (l : List S54) (h : RtAll l) (hl : l.length ≤ 4) : ∀ n (i : Nat) (x : Int), l.length = i + n → 1 ≤ x → x ≤ 240 → allP l i x → (∀ m, 1 ≤ m → allP l i m → x ∣ m) →
    (∃ r, 1 ≤ r ∧ r ≤ 240 ∧ allP l l.length r ∧ (∀ m, 1 ≤ m → allP l l.length m → r ∣ m) ∧ ∀ k, 300 + n ≤ k → synth_Frame.l1 k x l l.length i = some (r, 0)) ∨
    ((∀ m, 1 ≤ m → m ≤ 240 → ¬ allP l l.length m) ∧ ∀ k, 300 + n ≤ k → synth_Frame.l1 k x l l.length i = some (0, 5))
  | 0, i, x, hn, h0, h1, h2, h3 => by
    left
    rw [show i = l.length by omega] at h2 h3 ⊢
    refine ⟨x, h0, h1, h2, h3, fun k hk => ?_⟩
    obtain ⟨k, rfl⟩ : ∃ k', k = k' + 1 := ⟨k - 1, by omega⟩
    rw [synth_Frame.l1, if_neg (by omega)]
  | n + 1, i, x, hn, h0, h1, h2, h3 => by
    obtain ⟨r1, r2, r3⟩ := h i (by omega)
    have hp : 1 ≤ Pe l i := by omega
    have hL := L_ge h0 hp
    have hLb : L x (Pe l i) ≤ 240 * 200 := Int.le_trans hL.2 (Int.mul_le_mul h1 r3 (by omega) (by omega))
    have lc : ∀ k, 210 ≤ k → arith_Lcm.f k x (Pe l i) = some (L x (Pe l i), 0) := by
      intro k hk
      rw [lcm_ev _ _ k (by omega), if_pos ⟨h0, hp, by unfold Ok; omega, by unfold Ok; omega⟩, if_pos (by unfold Ok; omega)]
    have up : ∀ m, 1 ≤ m → allP l (i + 1) m → L x (Pe l i) ∣ m := fun m hm q => L_least h0 hp hm (h3 m hm (fun j hj => q j (by omega))) (q i (by omega))
    by_cases c : L x (Pe l i) > 240
    · right
      refine ⟨fun m m1 m2 q => ?_, fun k hk => ?_⟩
      · have := Int.le_of_dvd (by omega) (up m m1 (fun j hj => q j (by omega)))
        omega
      · obtain ⟨k, rfl⟩ : ∃ k', k = k' + 1 := ⟨k - 1, by omega⟩
        rw [synth_Frame.l1, if_pos (by omega), if_pos (by omega), if_pos (by omega), lc k (by omega), Option.bind_some, if_pos rfl, if_pos c]
    · have ih := frame_l1 l h hl n (i + 1) (L x (Pe l i)) (by omega) hL.1 (by omega) (fun j hj => by
        by_cases e : j = i
        · subst e; exact L_right h0 hp
        · exact Int.dvd_trans (h2 j (by omega)) (L_left h0 hp)) up
      have st : ∀ k, 300 + (n + 1) ≤ k + 1 → synth_Frame.l1 (k + 1) x l l.length i = synth_Frame.l1 k (L x (Pe l i)) l l.length ((i + 1 : Nat) : Int) := by
        intro k hk
        rw [synth_Frame.l1, if_pos (by omega), if_pos (by omega), if_pos (by omega), lc k (by omega), Option.bind_some, if_pos rfl, if_neg c, w64 (by omega) (by omega)]; rfl
      rcases ih with ⟨r, q1, q2, q3, q4, q5⟩ | ⟨q1, q2⟩
      · left
        refine ⟨r, q1, q2, q3, q4, fun k hk => ?_⟩
        obtain ⟨k, rfl⟩ : ∃ k', k = k' + 1 := ⟨k - 1, by omega⟩
        rw [st k hk]; exact q5 k (by omega)
      · right
        refine ⟨q1, fun k hk => ?_⟩
        obtain ⟨k, rfl⟩ : ∃ k', k = k' + 1 := ⟨k - 1, by omega⟩
        rw [st k hk]; exact q2 k (by omega)
theorem frame_l0 (l : List S54) (hl : l.length ≤ 4) : ∀ n (i : Nat), l.length = i + n → (∀ j, j < i → RtI l j) → (∀ k, 310 ≤ k → RtAll l → synth_Frame.l0 (k + n) l l l.length i = synth_Frame.l1 (k - 1) 1 l l.length 0) ∧ (¬ RtAll l → ∀ k, 310 ≤ k → synth_Frame.l0 (k + n) l l l.length i = some (0, 1))
  | 0, i, hn, hi => by
    have all : RtAll l := fun j hj => hi j (by omega)
    refine ⟨fun k hk _ => ?_, fun h => absurd all h⟩
    obtain ⟨k, rfl⟩ : ∃ k', k = k' + 1 := ⟨k - 1, by omega⟩
    rw [Nat.add_zero, synth_Frame.l0, if_neg (by omega)]; rfl
  | n + 1, i, hn, hi => by
    have st : ∀ k, synth_Frame.l0 (k + (n + 1)) l l l.length i = if RtI l i then synth_Frame.l0 (k + n) l l l.length ((i + 1 : Nat) : Int) else some (0, 1) := by
      intro k
      rw [show k + (n + 1) = (k + n) + 1 from rfl, synth_Frame.l0, if_pos (by omega), if_pos (by omega), if_pos (by omega), right_ev, Option.bind_some, w64 (by omega) (by omega)]
      by_cases c : RtI l i
      · rw [decide_eq_true c, if_pos rfl, if_pos c]; rfl
      · rw [decide_eq_false c, if_neg (by decide), if_neg c]
    by_cases c : RtI l i
    · have ih := frame_l0 l hl n (i + 1) (by omega) (fun j hj => by
        by_cases e : j = i
        · subst e; exact c
        · exact hi j (by omega))
      exact ⟨fun k hk h => by rw [st, if_pos c]; exact ih.1 k hk h, fun h k hk => by rw [st, if_pos c]; exact ih.2 h k hk⟩
    · exact ⟨fun k hk h => absurd (h i (by omega)) c, fun h k hk => by rw [st, if_neg c]⟩
theorem rframe_l2 (l : List S54) (h : RtAll l) (hl : l.length ≤ 4) (x : Int) (hx : 1 ≤ x ∧ x ≤ 240) {F : Nat} {r : Option (Int × Int)} (H : ∀ k, F ≤ k → (if (∀ j, j < l.length → Int.tmod x (Pe l j) = 0) then some (x, 0) else remontoirref12_Frame.l1 k l (x + 1)) = r) :
    ∀ n (i : Nat) (b : Bool), l.length = i + n → (b = true ↔ ∀ j, j < i → Int.tmod x (Pe l j) = 0) → ∀ k, F + n + 1 ≤ k → remontoirref12_Frame.l2 k l x b i = r
  | 0, i, b, hn, hb, k, hk => by
    obtain ⟨k, rfl⟩ : ∃ k', k = k' + 1 := ⟨k - 1, by omega⟩
    have := H k (by omega)
    rw [show i = l.length by omega] at hb
    rw [remontoirref12_Frame.l2, if_neg (by omega), w64 (by omega) (by omega)]
    by_cases c : b = true
    · rw [if_pos (hb.1 c)] at this; rw [if_pos c]; exact this
    · rw [if_neg (fun q => c (hb.2 q))] at this; rw [if_neg c]; exact this
  | n + 1, i, b, hn, hb, k, hk => by
    obtain ⟨k, rfl⟩ : ∃ k', k = k' + 1 := ⟨k - 1, by omega⟩
    obtain ⟨r1, r2, r3⟩ := h i (by omega)
    have ih := fun b' h' => rframe_l2 l h hl x hx H n (i + 1) b' (by omega) h' k (by omega)
    rw [remontoirref12_Frame.l2, if_pos (by omega), w64 (by omega) (by omega)]
    by_cases c : b = true
    · rw [if_pos c, if_pos (by omega), if_neg (show ¬ (rd_T54 l (i : Int)).f0 = 0 from fun q => by have : Pe l i = 0 := q; omega)]
      refine ih _ ?_
      rw [beq_iff_eq]
      constructor
      · intro q j hj
        by_cases e : j = i
        · subst e; exact q
        · exact hb.1 c j (by omega)
      · intro q; exact q i (by omega)
    · rw [if_neg c]
      refine ih false ⟨fun q => (by cases q), fun q => ?_⟩
      exact absurd (hb.2 (fun j hj => q j (by omega))) c
open Classical in
theorem rframe_l1 (l : List S54) (h : RtAll l) (hl : l.length ≤ 4) : ∀ (n : Nat) (x : Int), 241 = x + (n : Int) → 1 ≤ x → (∀ m, 1 ≤ m → m < x → ¬ allP l l.length m) →
    (∀ r, 1 ≤ r → r ≤ 240 → allP l l.length r → (∀ m, 1 ≤ m → allP l l.length m → r ∣ m) → ∀ k, n * 10 + 1 ≤ k → remontoirref12_Frame.l1 k l x = some (r, 0)) ∧ ((∀ m, 1 ≤ m → m ≤ 240 → ¬ allP l l.length m) → ∀ k, n * 10 + 1 ≤ k → remontoirref12_Frame.l1 k l x = some (0, 5))
  | 0, x, hx, h0, hm => by
    refine ⟨fun r r1 r2 r3 _ => absurd r3 (hm r r1 (by omega)), fun _ k hk => ?_⟩
    obtain ⟨k, rfl⟩ : ∃ k', k = k' + 1 := ⟨k - 1, by omega⟩
    rw [remontoirref12_Frame.l1, if_neg (by omega)]
  | n + 1, x, hx, h0, hm => by
    have tm : ∀ j, Int.tmod x (Pe l j) = 0 ↔ Pe l j ∣ x := fun j => (Int.dvd_iff_tmod_eq_zero).symm
    have st : ∀ k r, (n + 1) * 10 + 1 ≤ k → (∀ k', n * 10 + 1 ≤ k' → (if (∀ j, j < l.length → Int.tmod x (Pe l j) = 0) then some (x, 0) else remontoirref12_Frame.l1 k' l (x + 1)) = r) → remontoirref12_Frame.l1 k l x = r := by
      intro k r hk H
      obtain ⟨k, rfl⟩ : ∃ k', k = k' + 1 := ⟨k - 1, by omega⟩
      rw [remontoirref12_Frame.l1, if_pos (by omega)]
      exact rframe_l2 l h hl x (by omega) H l.length 0 true (by omega) ⟨fun _ j hj => by omega, fun _ => rfl⟩ k (by omega)
    by_cases c : ∀ j, j < l.length → Int.tmod x (Pe l j) = 0
    · have hc : allP l l.length x := fun j hj => (tm j).1 (c j hj)
      refine ⟨fun r r1 r2 r3 r4 k hk => st k _ hk (fun k' _ => ?_), fun q => absurd hc (q x h0 (by omega))⟩
      rw [if_pos c]
      have h1 := Int.le_of_dvd (by omega) (r4 x h0 hc)
      have h2 : ¬ r < x := fun q => hm r r1 q r3
      rw [show x = r by omega]
    · have hc : ¬ allP l l.length x := fun q => c (fun j hj => (tm j).2 (q j hj))
      have ih := rframe_l1 l h hl n (x + 1) (by omega) (by omega) (fun m m1 m2 => by
        by_cases e : m = x
        · subst e; exact hc
        · exact hm m m1 (by omega))
      exact ⟨fun r r1 r2 r3 r4 k hk => st k _ hk (fun k' hk' => by rw [if_neg c]; exact ih.1 r r1 r2 r3 r4 k' hk'), fun q k hk => st k _ hk (fun k' hk' => by rw [if_neg c]; exact ih.2 q k' hk')⟩
theorem rframe_l0 (l : List S54) (hl : l.length ≤ 4) : ∀ n (i : Nat), l.length = i + n → (∀ j, j < i → RtI l j) → (∀ k, 10 ≤ k → RtAll l → remontoirref12_Frame.l0 (k + n) l i = remontoirref12_Frame.l1 (k - 1) l 1) ∧ (¬ RtAll l → ∀ k, 10 ≤ k → remontoirref12_Frame.l0 (k + n) l i = some (0, 1))
  | 0, i, hn, hi => by
    have all : RtAll l := fun j hj => hi j (by omega)
    refine ⟨fun k hk _ => ?_, fun h => absurd all h⟩
    obtain ⟨k, rfl⟩ : ∃ k', k = k' + 1 := ⟨k - 1, by omega⟩
    rw [Nat.add_zero, remontoirref12_Frame.l0, if_neg (by omega)]; rfl
  | n + 1, i, hn, hi => by
    have st : ∀ k, remontoirref12_Frame.l0 (k + (n + 1)) l i = if RtI l i then remontoirref12_Frame.l0 (k + n) l ((i + 1 : Nat) : Int) else some (0, 1) := by
      intro k
      rw [show k + (n + 1) = (k + n) + 1 from rfl, remontoirref12_Frame.l0, if_pos (by omega), if_pos (by omega), rright_ev, Option.bind_some, w64 (by omega) (by omega)]
      by_cases c : RtI l i
      · rw [decide_eq_true c, if_pos rfl, if_pos c]; rfl
      · rw [decide_eq_false c, if_neg (by decide), if_neg c]
    by_cases c : RtI l i
    · have ih := rframe_l0 l hl n (i + 1) (by omega) (fun j hj => by
        by_cases e : j = i
        · subst e; exact c
        · exact hi j (by omega))
      exact ⟨fun k hk h => by rw [st, if_pos c]; exact ih.1 k hk h, fun h k hk => by rw [st, if_pos c]; exact ih.2 h k hk⟩
    · exact ⟨fun k hk h => absurd (h i (by omega)) c, fun h k hk => by rw [st, if_neg c]⟩
/-- The frame: of the program, and of the reference. -/
theorem Frame_ev (l : List S54) : (∃ r, RtAll l ∧ l.length ≤ 4 ∧ 1 ≤ r ∧ r ≤ 240 ∧ allP l l.length r ∧ ∀ k, 3000 ≤ k → synth_Frame.f k l = some (r, 0) ∧ remontoirref12_Frame.f k l = some (r, 0)) ∨
    (∃ e, (e = 1 ∨ e = 5) ∧ ∀ k, 3000 ≤ k → synth_Frame.f k l = some (0, e) ∧ remontoirref12_Frame.f k l = some (0, e)) := by
  by_cases hl : l.length > 4
  · right
    refine ⟨1, .inl rfl, fun k hk => ?_⟩
    unfold synth_Frame.f remontoirref12_Frame.f
    rw [if_pos (by omega), if_pos (by omega)]
    exact ⟨rfl, rfl⟩
  · have hl : l.length ≤ 4 := by omega
    have hg : ¬ (l.length : Int) > 4 := by omega
    have f0 := frame_l0 l hl l.length 0 (by omega) (fun j hj => by omega)
    have g0 := rframe_l0 l hl l.length 0 (by omega) (fun j hj => by omega)
    by_cases ha : RtAll l
    · have h0 := fun k (hk : 3000 ≤ k) => f0.1 (k - l.length) (by omega) ha
      have h1 := fun k (hk : 3000 ≤ k) => g0.1 (k - l.length) (by omega) ha
      have hs : ∀ k, 3000 ≤ k → synth_Frame.f k l = synth_Frame.l1 (k - l.length - 1) 1 l l.length 0 := fun k hk => by
        unfold synth_Frame.f; rw [if_neg hg]
        have := h0 k hk
        rw [show k - l.length + l.length = k by omega] at this; exact this
      have ht : ∀ k, 3000 ≤ k → remontoirref12_Frame.f k l = remontoirref12_Frame.l1 (k - l.length - 1) l 1 := fun k hk => by
        unfold remontoirref12_Frame.f; rw [if_neg hg]
        have := h1 k hk
        rw [show k - l.length + l.length = k by omega] at this; exact this
      have r1 := rframe_l1 l ha hl 240 1 (by omega) (by omega) (fun m m1 m2 => by omega)
      rcases frame_l1 l ha hl l.length 0 1 (by omega) (by omega) (by omega) (fun j hj => by omega) (fun m _ _ => Int.one_dvd m) with ⟨r, q1, q2, q3, q4, q5⟩ | ⟨q1, q2⟩
      · left
        refine ⟨r, ha, hl, q1, q2, q3, fun k hk => ⟨?_, ?_⟩⟩
        · rw [hs k hk]; exact q5 _ (by omega)
        · rw [ht k hk]; exact r1.1 r q1 q2 q3 q4 _ (by omega)
      · right
        refine ⟨5, .inr rfl, fun k hk => ⟨?_, ?_⟩⟩
        · rw [hs k hk]; exact q2 _ (by omega)
        · rw [ht k hk]; exact r1.2 q1 _ (by omega)
    · right
      refine ⟨1, .inl rfl, fun k hk => ⟨?_, ?_⟩⟩
      · unfold synth_Frame.f; rw [if_neg hg]
        have := f0.2 ha (k - l.length) (by omega)
        rw [show k - l.length + l.length = k by omega] at this; exact this
      · unfold remontoirref12_Frame.f; rw [if_neg hg]
        have := g0.2 ha (k - l.length) (by omega)
        rw [show k - l.length + l.length = k by omega] at this; exact this
end Go.Proofs.Ytkfkghnmbemdiaa.SynthLem
