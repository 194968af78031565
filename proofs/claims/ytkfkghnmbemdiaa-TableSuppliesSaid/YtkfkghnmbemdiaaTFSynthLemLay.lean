/- Whom each tick is given to: the program and its reference lay alike: lemmas for the statements of layer 12. No condition. -/
import Derived.Test.YtkfkghnmbemdiaaTFSynthx0
import Derived.Test.YtkfkghnmbemdiaaTFSynthx2
import Derived.Test.YtkfkghnmbemdiaaTFSynthx3
import Derived.Test.YtkfkghnmbemdiaaTFSynthx4
import Derived.Test.YtkfkghnmbemdiaaTFSynthx5
import Derived.Test.YtkfkghnmbemdiaaTFSynthx6
import Derived.Test.YtkfkghnmbemdiaaTFSynthx7
import Derived.Test.YtkfkghnmbemdiaaTFSynthx8
import Derived.Test.YtkfkghnmbemdiaaTFSynthx9
import Derived.Test.YtkfkghnmbemdiaaTFSynthx10
import Derived.Test.YtkfkghnmbemdiaaTFSynthLem
namespace Go.Proofs.Ytkfkghnmbemdiaa.SynthLay
open Go.RowKit Go.Proofs.Ytkfkghnmbemdiaa.FSynth Go.Proofs.Ytkfkghnmbemdiaa.SynthArith Go.Proofs.Ytkfkghnmbemdiaa.SynthLem Go.Proofs.YtkfkghnmbemdiaaW.PrintWords Go.Proofs.YtkfkghnmbemdiaaW.PrintLast Go.Proofs.YtkfkghnmbemdiaaW.PrintMore
set_option linter.unusedSimpArgs false
set_option linter.unusedVariables false
def cntI : List Int → Int → Int
  | [], _ => 0
  | x :: g, i => (if x = i then 1 else 0) + cntI g i
theorem cntI_snoc : ∀ (g : List Int) (x i : Int), cntI (g ++ [x]) i = cntI g i + if x = i then 1 else 0
  | [], x, i => by simp [cntI]
  | y :: g, x, i => by show _ + cntI (g ++ [x]) i = _; rw [cntI_snoc g x i, cntI]; omega
theorem cntI_le : ∀ (g : List Int) (i : Int), 0 ≤ cntI g i ∧ cntI g i ≤ g.length
  | [], i => by simp [cntI]
  | x :: g, i => by have := cntI_le g i; rw [cntI, List.length_cons]; split <;> omega
def hadN (g : List Int) (i a : Nat) : Int := cntI (g.drop a) i
theorem hadN_le (g : List Int) (i a : Nat) : 0 ≤ hadN g i a ∧ hadN g i a ≤ g.length := by
  have := cntI_le (g.drop a) i
  unfold hadN
  rw [List.length_drop] at this
  omega
theorem hadN_snoc (g : List Int) (x : Int) (i a : Nat) (ha : a ≤ g.length) : hadN (g ++ [x]) i a = hadN g i a + if x = (i : Int) then 1 else 0 := by
  unfold hadN
  rw [List.drop_append_of_le_length ha, cntI_snoc]
theorem hadN_end (g : List Int) (i : Nat) : hadN g i g.length = 0 := by unfold hadN; rw [List.drop_of_length_le (Nat.le_refl _)]; rfl
theorem rd_get (x : List Int) (i : Nat) (hi : i < x.length) : rd x (i : Int) = x[i] := by
  show x.getD (i : Int).toNat 0 = _
  rw [Int.toNat_natCast, List.getD_eq_getElem?_getD, List.getElem?_eq_getElem hi]; rfl
theorem drop_cons (x : List Int) (i : Nat) (hi : i < x.length) : x.drop i = rd x (i : Int) :: x.drop (i + 1) := by
  rw [List.drop_eq_getElem_cons hi, rd_get x i hi]
theorem rd_set (x : List Int) (i j : Nat) (v : Int) (hi : i < x.length) : rd (x.set i v) (j : Int) = if i = j then v else rd x (j : Int) := by
  show (x.set i v).getD (j : Int).toNat 0 = if i = j then v else x.getD (j : Int).toNat 0
  rw [Int.toNat_natCast, List.getD_eq_getElem?_getD, List.getD_eq_getElem?_getD, List.getElem?_set]
  by_cases e : i = j
  · subst e; rw [if_pos rfl, if_pos hi, if_pos rfl]; rfl
  · rw [if_neg e, if_neg e]
theorem had_l0 (g : List Int) (hg : g.length ≤ 1000) (i : Nat) : ∀ n (t : Nat) (c : Int), g.length = t + n → 0 ≤ c → c ≤ t → ∀ k, n + 1 ≤ k → remontoirref12_Had.l0 k g i c t = some (c + cntI (g.drop t) i)
  | 0, t, c, hn, c0, c1, k, hk => by
    obtain ⟨k, rfl⟩ : ∃ k', k = k' + 1 := ⟨k - 1, by omega⟩
    rw [remontoirref12_Had.l0, if_neg (by omega), List.drop_of_length_le (by omega), cntI, Int.add_zero]
  | n + 1, t, c, hn, c0, c1, k, hk => by
    obtain ⟨k, rfl⟩ : ∃ k', k = k' + 1 := ⟨k - 1, by omega⟩
    rw [drop_cons g t (by omega), cntI, remontoirref12_Had.l0, if_pos (by omega), if_pos (by omega), w64 (n := c + 1) (by omega) (by omega), w64 (n := (t : Int) + 1) (by omega) (by omega)]
    by_cases e : rd g (t : Int) = (i : Int)
    · rw [if_pos e, if_pos e]
      have := had_l0 g hg i n (t + 1) (c + 1) (by omega) (by omega) (by omega) k (by omega)
      rw [← Int.add_assoc]; exact this
    · rw [if_neg e, if_neg e, Int.zero_add]
      exact had_l0 g hg i n (t + 1) c (by omega) (by omega) (by omega) k (by omega)
theorem had_ev (g : List Int) (hg : g.length ≤ 1000) (i a : Nat) (ha : a ≤ g.length) (k : Nat) (hk : g.length + 1 ≤ k) : remontoirref12_Had.f k g i a = some (hadN g i a) := by
  have := had_l0 g hg i (g.length - a) a 0 (by omega) (by omega) (by omega) k (by omega)
  rw [Int.zero_add] at this
  exact this

/-! ### Periods, wants, and picks -/
def p (l : List S54) (i : Nat) : Nat := (Pe l i).toNat
def ps (l : List S54) (i t : Nat) : Nat := t / p l i * p l i
def dl (l : List S54) (i t : Nat) : Nat := (t / p l i + 1) * p l i
def wt (l : List S54) (g : List Int) (i t : Nat) : Int := Bu l i - hadN g i (ps l i t)
theorem p_eq {l : List S54} (h : RtAll l) {i : Nat} (hi : i < l.length) : Pe l i = (p l i : Int) ∧ 1 ≤ p l i ∧ p l i ≤ 200 := by
  obtain ⟨a, b, c⟩ := h i hi
  unfold p; omega
theorem ps_le (l : List S54) (i t : Nat) : ps l i t ≤ t := Nat.div_mul_le_self _ _
def IsPick (lo hi : Nat) (w : Nat → Int) (d : Nat → Nat) (o : Int) : Prop := (o = -1 ∧ ∀ j, lo ≤ j → j < hi → w j ≤ 0) ∨ ∃ m : Nat, o = (m : Int) ∧ lo ≤ m ∧ m < hi ∧ 0 < w m ∧ ∀ j, lo ≤ j → j < hi → 0 < w j → d m < d j ∨ (d m = d j ∧ m ≤ j)
theorem pick_unique {lo hi : Nat} {w : Nat → Int} {d : Nat → Nat} {a b : Int} (h : IsPick lo hi w d a) (k : IsPick lo hi w d b) : a = b := by
  rcases h with ⟨h1, h2⟩ | ⟨m, h1, h2, h3, h4, h5⟩ <;> rcases k with ⟨k1, k2⟩ | ⟨q, k1, k2, k3, k4, k5⟩
  · omega
  · have := h2 q k2 k3; omega
  · have := k2 m h2 h3; omega
  · have := h5 q k2 k3 k4
    have := k5 m h2 h3 h4
    omega
theorem by_eq {l : List S54} (h : RtAll l) {i : Nat} (hi : i < l.length) (t : Nat) : (t : Int) - Int.tmod t (Pe l i) + Pe l i = (dl l i t : Int) := by
  obtain ⟨e, e1, e2⟩ := p_eq h hi
  rw [e, Int.tmod_eq_emod_of_nonneg (Int.natCast_nonneg t)]
  unfold dl
  have := Nat.div_add_mod t (p l i)
  rw [Nat.mul_comm] at this
  rw [Nat.add_mul, Nat.one_mul]
  have h2 : ((t : Int) % (p l i : Int)) = ((t % p l i : Nat) : Int) := by omega
  rw [h2]
  omega
theorem next_l0 (l : List S54) (h : RtAll l) (hl : l.length ≤ 4) (ws : List Int) (hw : ws.length = l.length) (t : Nat) : ∀ n (i : Nat) (o d : Int), l.length = i + n → IsPick 0 i (fun j => rd ws (j : Int)) (fun j => dl l j t) o → (∀ m : Nat, o = (m : Int) → d = (dl l m t : Int)) →
    ∃ o', (∀ k, n + 1 ≤ k → synth_next.l0 k l ws t i o d = some o') ∧ IsPick 0 l.length (fun j => rd ws (j : Int)) (fun j => dl l j t) o'
  | 0, i, o, d, hn, hp, hd => by
    refine ⟨o, fun k hk => ?_, by rw [show l.length = i by omega]; exact hp⟩
    obtain ⟨k, rfl⟩ : ∃ k', k = k' + 1 := ⟨k - 1, by omega⟩
    rw [synth_next.l0, if_neg (by omega)]
  | n + 1, i, o, d, hn, hp, hd => by
    obtain ⟨e, e1, e2⟩ := p_eq h (i := i) (by omega)
    have hby := by_eq h (i := i) (by omega) t
    have st : ∀ k, synth_next.l0 (k + 1) l ws t i o d = if rd ws (i : Int) > 0 then (if o = -1 then synth_next.l0 k l ws t ((i + 1 : Nat) : Int) i (dl l i t : Int) else (if (dl l i t : Int) < d then synth_next.l0 k l ws t ((i + 1 : Nat) : Int) i (dl l i t : Int) else synth_next.l0 k l ws t ((i + 1 : Nat) : Int) o d)) else synth_next.l0 k l ws t ((i + 1 : Nat) : Int) o d := by
      intro k
      rw [synth_next.l0, if_pos (by omega), if_pos (show 1 ≤ Pe l i ∧ Pe l i ≤ 1000 by omega), if_pos (by omega)]
      show (if _ then (if _ then synth_next.l0 k l ws t _ i ((t : Int) - Int.tmod t (Pe l i) + Pe l i) else if (t : Int) - Int.tmod t (Pe l i) + Pe l i < d then synth_next.l0 k l ws t _ i ((t : Int) - Int.tmod t (Pe l i) + Pe l i) else _) else _) = _
      rw [hby]; rfl
    have go : ∀ o1 d1, IsPick 0 (i + 1) (fun j => rd ws (j : Int)) (fun j => dl l j t) o1 → (∀ m : Nat, o1 = (m : Int) → d1 = (dl l m t : Int)) → (∀ k, synth_next.l0 (k + 1) l ws t i o d = synth_next.l0 k l ws t ((i + 1 : Nat) : Int) o1 d1) →
        ∃ o', (∀ k, n + 1 + 1 ≤ k → synth_next.l0 k l ws t i o d = some o') ∧ IsPick 0 l.length (fun j => rd ws (j : Int)) (fun j => dl l j t) o' := by
      intro o1 d1 q1 q2 q3
      obtain ⟨o', r1, r2⟩ := next_l0 l h hl ws hw t n (i + 1) o1 d1 (by omega) q1 q2
      refine ⟨o', fun k hk => ?_, r2⟩
      obtain ⟨k, rfl⟩ : ∃ k', k = k' + 1 := ⟨k - 1, by omega⟩
      rw [q3 k]; exact r1 k (by omega)
    by_cases c : rd ws (i : Int) > 0
    · have take : (∀ m : Nat, o = (m : Int) → dl l i t < dl l m t) → IsPick 0 (i + 1) (fun j => rd ws (j : Int)) (fun j => dl l j t) (i : Int) := by
        intro q
        refine .inr ⟨i, rfl, by omega, by omega, c, fun j _ j1 j2 => ?_⟩
        by_cases ej : j = i
        · subst ej; right; exact ⟨rfl, Nat.le_refl _⟩
        · rcases hp with ⟨h1, h2⟩ | ⟨m, h1, h2, h3, h4, h5⟩
          · have := h2 j (by omega) (by omega); dsimp only at j2 this; omega
          · have := h5 j (by omega) (by omega) j2
            have := q m h1
            dsimp only at *
            left; omega
      by_cases c1 : o = -1
      · exact go i (dl l i t) (take (fun m q => by omega)) (fun m q => congrArg (fun x : Nat => ((dl l x t : Nat) : Int)) (show i = m by omega)) (fun k => by rw [st, if_pos c, if_pos c1])
      · by_cases c2 : (dl l i t : Int) < d
        · exact go i (dl l i t) (take (fun m q => by have := hd m q; omega)) (fun m q => congrArg (fun x : Nat => ((dl l x t : Nat) : Int)) (show i = m by omega)) (fun k => by rw [st, if_pos c, if_neg c1, if_pos c2])
        · refine go o d ?_ hd (fun k => by rw [st, if_pos c, if_neg c1, if_neg c2])
          rcases hp with ⟨h1, h2⟩ | ⟨m, h1, h2, h3, h4, h5⟩
          · exact absurd h1 c1
          · refine .inr ⟨m, h1, h2, by omega, h4, fun j j0 j1 j2 => ?_⟩
            by_cases ej : j = i
            · subst ej
              have := hd m h1
              dsimp only
              omega
            · exact h5 j j0 (by omega) j2
    · refine go o d ?_ hd (fun k => by rw [st, if_neg c])
      rcases hp with ⟨h1, h2⟩ | ⟨m, h1, h2, h3, h4, h5⟩
      · refine .inl ⟨h1, fun j j0 j1 => ?_⟩
        by_cases ej : j = i
        · subst ej; dsimp only; omega
        · exact h2 j j0 (by omega)
      · refine .inr ⟨m, h1, h2, by omega, h4, fun j j0 j1 j2 => ?_⟩
        by_cases ej : j = i
        · subst ej; dsimp only at j2; omega
        · exact h5 j j0 (by omega) j2
theorem wants_ev (l : List S54) (h : RtAll l) (g : List Int) (hg : g.length ≤ 1000) (i : Nat) (hi : i < l.length) (k : Nat) (hk : g.length + 1 ≤ k) : remontoirref12_Wants.f k l g i g.length = some (wt l g i g.length) := by
  obtain ⟨e, e1, e2⟩ := p_eq h hi
  obtain ⟨b1, b2, b3⟩ := h i hi
  unfold remontoirref12_Wants.f
  have hd : wrap64 ((wrap64 (Int.tdiv (g.length : Int) (rd_T54 l (i : Int)).f0)) * (rd_T54 l (i : Int)).f0) = (ps l i g.length : Int) := by
    show wrap64 ((wrap64 (Int.tdiv (g.length : Int) (Pe l i))) * Pe l i) = _
    have q := ps_le l i g.length
    have q2 : g.length / p l i ≤ g.length := Nat.div_le_self _ _
    obtain ⟨qq, hqq⟩ : ∃ qq, qq = g.length / p l i := ⟨_, rfl⟩
    rw [e, Int.tdiv_eq_ediv_of_nonneg (Int.natCast_nonneg _), ← Int.natCast_ediv]
    unfold ps at q ⊢
    rw [← hqq] at q2 q ⊢
    rw [w64 (n := (qq : Int)) (by omega) (by omega), ← Int.natCast_mul, w64 (n := ((qq * p l i : Nat) : Int)) (by omega) (by omega)]
  have hb := hadN_le g i (ps l i g.length)
  rw [if_pos (by omega), if_pos (by omega), if_neg (show ¬ (rd_T54 l (i : Int)).f0 = 0 from fun q => by have : Pe l i = 0 := q; omega), hd, had_ev g hg i _ (ps_le l i g.length) k hk, Option.bind_some]
  show some (wrap64 (Bu l i - _)) = _
  rw [w64 (by omega) (by omega)]; rfl
theorem rdl_eq {l : List S54} (h : RtAll l) {i : Nat} (hi : i < l.length) (t : Nat) (ht : t ≤ 1000) : wrap64 ((wrap64 ((wrap64 (Int.tdiv (t : Int) (rd_T54 l (i : Int)).f0)) + 1)) * (rd_T54 l (i : Int)).f0) = (dl l i t : Int) := by
  obtain ⟨e, e1, e2⟩ := p_eq h hi
  show wrap64 ((wrap64 ((wrap64 (Int.tdiv (t : Int) (Pe l i))) + 1)) * Pe l i) = _
  have q2 : t / p l i ≤ t := Nat.div_le_self _ _
  rw [e, Int.tdiv_eq_ediv_of_nonneg (Int.natCast_nonneg _), ← Int.natCast_ediv]
  unfold dl
  obtain ⟨qq, hqq⟩ : ∃ qq, qq = t / p l i := ⟨_, rfl⟩
  rw [← hqq] at q2 ⊢
  have q3 : (qq + 1) * p l i ≤ 1001 * 200 := Nat.mul_le_mul (by omega) e2
  rw [w64 (n := (qq : Int)) (by omega) (by omega), w64 (n := (qq : Int) + 1) (by omega) (by omega)]
  have : ((qq : Int) + 1) * (p l i : Int) = (((qq + 1) * p l i : Nat) : Int) := by rw [Int.natCast_mul]; rfl
  rw [this, w64 (n := (((qq + 1) * p l i : Nat) : Int)) (by omega) (by omega)]
theorem rpick (l : List S54) (h : RtAll l) (hl : l.length ≤ 4) (fr : Int) (g : List Int) (hg : g.length ≤ 400) {F : Nat} {r : Option (List Int × Int)} : ∀ (i : Nat) (o : Int), i ≤ l.length → IsPick i l.length (fun j => wt l g j g.length) (fun j => dl l j g.length) o →
    (∀ o', IsPick 0 l.length (fun j => wt l g j g.length) (fun j => dl l j g.length) o' → ∀ k, F ≤ k → remontoirref12_Lay.l2 k l fr (g ++ [o']) g.length 0 = r) → ∀ k, F + 500 + i ≤ k → remontoirref12_Lay.l1 k l fr g g.length o ((i : Int) - 1) = r
  | 0, o, hi, hp, H, k, hk => by
    obtain ⟨k, rfl⟩ : ∃ k', k = k' + 1 := ⟨k - 1, by omega⟩
    rw [remontoirref12_Lay.l1, if_neg (by omega), if_pos (by omega)]
    exact H o hp k (by omega)
  | i + 1, o, hi, hp, H, k, hk => by
    obtain ⟨k, rfl⟩ : ∃ k', k = k' + 1 := ⟨k - 1, by omega⟩
    have hx : (((i + 1 : Nat) : Int) - 1) = (i : Int) := by omega
    have ih := fun o1 q => rpick l h hl fr g hg i o1 (by omega) q H k (by omega)
    obtain ⟨e, e1, e2⟩ := p_eq h (i := i) (by omega)
    have nz : ∀ j : Nat, j < l.length → ¬ (rd_T54 l (j : Int)).f0 = 0 := fun j hj q => by have : Pe l j = 0 := q; have := p_eq h hj; omega
    rw [hx, remontoirref12_Lay.l1, if_pos (by omega), wants_ev l h g (by omega) i (by omega) k (by omega), Option.bind_some, w64 (n := (i : Int) - 1) (by omega) (by omega)]
    have keep : (∀ m : Nat, o = (m : Int) → 0 < wt l g i g.length → dl l m g.length < dl l i g.length) → (o = -1 → wt l g i g.length ≤ 0) → IsPick i l.length (fun j => wt l g j g.length) (fun j => dl l j g.length) o := by
      intro q1 q2
      rcases hp with ⟨h1, h2⟩ | ⟨m, h1, h2, h3, h4, h5⟩
      · refine .inl ⟨h1, fun j j0 j1 => ?_⟩
        by_cases ej : j = i
        · subst ej; exact q2 h1
        · exact h2 j (by omega) j1
      · refine .inr ⟨m, h1, by omega, h3, h4, fun j j0 j1 j2 => ?_⟩
        by_cases ej : j = i
        · subst ej; left; exact q1 m h1 j2
        · exact h5 j (by omega) j1 j2
    have take : 0 < wt l g i g.length → (∀ m : Nat, o = (m : Int) → dl l i g.length ≤ dl l m g.length) → IsPick i l.length (fun j => wt l g j g.length) (fun j => dl l j g.length) (i : Int) := by
      intro c q
      refine .inr ⟨i, rfl, Nat.le_refl _, by omega, c, fun j j0 j1 j2 => ?_⟩
      by_cases ej : j = i
      · subst ej; right; exact ⟨rfl, Nat.le_refl _⟩
      · rcases hp with ⟨h1, h2⟩ | ⟨m, h1, h2, h3, h4, h5⟩
        · have := h2 j (by omega) j1; dsimp only at j2 this; omega
        · have := h5 j (by omega) j1 j2
          have := q m h1
          dsimp only at *
          omega
    by_cases c : wt l g i g.length > 0
    · rw [if_pos c]
      by_cases c1 : o < 0
      · rw [if_pos c1]
        exact ih i (take c (fun m q => by omega))
      · rw [if_neg c1, if_pos (by omega), if_pos (by omega), if_neg (nz i (by omega)), if_pos (by omega)]
        rcases hp with ⟨h1, h2⟩ | ⟨m, h1, h2, h3, h4, h5⟩
        · omega
        · have hp' : IsPick (i + 1) l.length (fun j => wt l g j g.length) (fun j => dl l j g.length) o := .inr ⟨m, h1, h2, h3, h4, h5⟩
          rw [if_pos (by omega), h1, if_neg (nz m h3), rdl_eq h (by omega) _ (by omega), rdl_eq h h3 _ (by omega)]
          by_cases c2 : (dl l i g.length : Int) ≤ (dl l m g.length : Int)
          · rw [if_pos c2]
            exact ih i (take c (fun m' q => by rw [show m' = m by omega]; omega))
          · rw [if_neg c2, ← h1]
            exact ih o (keep (fun m' q _ => by rw [show m' = m by omega]; omega) (fun q => by omega))
    · rw [if_neg c]
      exact ih o (keep (fun m q c' => absurd c' c) (fun _ => by omega))
/-- Has each period that ends here had its budget? -/
def good (l : List S54) (t : Nat) (g : List Int) : Prop := ∀ j, j < l.length → t % p l j = 0 → 0 < t → Bu l j ≤ hadN g j (t - p l j)
open Classical in
theorem rcheck (l : List S54) (h : RtAll l) (hl : l.length ≤ 4) (fr : Int) (g : List Int) (t : Nat) (hg : g.length = t + 1) (ht : t ≤ 400) {F : Nat} {r : Option (List Int × Int)} (H : ∀ k, F ≤ k → (if good l (t + 1) g then remontoirref12_Lay.l0 k l fr g ((t : Int) + 1) else some ([], 7)) = r) :
    ∀ n (i : Nat), l.length = i + n → (∀ j, j < i → (t + 1) % p l j = 0 → Bu l j ≤ hadN g j (t + 1 - p l j)) → ∀ k, F + 500 + n ≤ k → remontoirref12_Lay.l2 k l fr g t i = r
  | 0, i, hn, hi, k, hk => by
    obtain ⟨k, rfl⟩ : ∃ k', k = k' + 1 := ⟨k - 1, by omega⟩
    have := H k (by omega)
    rw [if_pos (show good l (t + 1) g from fun j hj q _ => hi j (by omega) q)] at this
    rw [remontoirref12_Lay.l2, if_neg (by omega), w64 (by omega) (by omega)]
    exact this
  | n + 1, i, hn, hi, k, hk => by
    obtain ⟨k, rfl⟩ : ∃ k', k = k' + 1 := ⟨k - 1, by omega⟩
    obtain ⟨e, e1, e2⟩ := p_eq h (i := i) (by omega)
    have ih := fun q => rcheck l h hl fr g t hg ht H n (i + 1) (by omega) q k (by omega)
    have hm : Int.tmod ((t : Int) + 1) (Pe l i) = (((t + 1) % p l i : Nat) : Int) := by
      rw [show ((t : Int) + 1) = ((t + 1 : Nat) : Int) from rfl]
      obtain ⟨u, hu⟩ : ∃ u, u = t + 1 := ⟨_, rfl⟩
      rw [← hu, e, Int.tmod_eq_emod_of_nonneg (Int.natCast_nonneg _)]; omega
    rw [remontoirref12_Lay.l2, if_pos (by omega), if_pos (by omega), if_neg (show ¬ (rd_T54 l (i : Int)).f0 = 0 from fun q => by have : Pe l i = 0 := q; omega), w64 (n := (t : Int) + 1) (by omega) (by omega), w64 (n := (i : Int) + 1) (by omega) (by omega)]
    show (if Int.tmod ((t : Int) + 1) (Pe l i) = 0 then (remontoirref12_Had.f k g i (wrap64 ((t : Int) + 1 - Pe l i))).bind _ else _) = r
    rw [hm]
    by_cases c : (t + 1) % p l i = 0
    · have hle : p l i ≤ t + 1 := Nat.le_of_dvd (by omega) (Nat.dvd_of_mod_eq_zero c)
      rw [if_pos (by omega), e, w64 (by omega) (by omega), show ((t : Int) + 1 - (p l i : Int)) = ((t + 1 - p l i : Nat) : Int) by omega, had_ev g (by omega) i _ (by omega) k (by omega), Option.bind_some]
      by_cases c2 : hadN g i (t + 1 - p l i) < Bu l i
      · have := H k (by omega)
        rw [if_neg (show ¬ good l (t + 1) g from fun q => by have := q i (by omega) c (by omega); omega)] at this
        rw [if_pos c2]; exact this
      · rw [if_neg c2]
        exact ih (fun j hj q => by
          by_cases ej : j = i
          · subst ej; omega
          · exact hi j (by omega) q)
    · rw [if_neg (by omega)]
      exact ih (fun j hj q => by
        by_cases ej : j = i
        · subst ej; exact absurd q c
        · exact hi j (by omega) q)
theorem begin_ev (l : List S54) (h : RtAll l) (hl : l.length ≤ 4) (t : Nat) : ∀ n (i : Nat) (ws : List Int), l.length = i + n → ws.length = l.length →
    ((∃ j, i ≤ j ∧ j < l.length ∧ t % p l j = 0 ∧ 0 < rd ws (j : Int)) → ∃ ws', ∀ k, n + 1 ≤ k → synth_begin.l0 k l t i ws = some (false, ws')) ∧
    ((∀ j, i ≤ j → j < l.length → t % p l j = 0 → rd ws (j : Int) ≤ 0) → ∃ ws', (∀ k, n + 1 ≤ k → synth_begin.l0 k l t i ws = some (true, ws')) ∧ ws'.length = l.length ∧ ∀ j : Nat, j < l.length → rd ws' (j : Int) = if i ≤ j ∧ t % p l j = 0 then Bu l j else rd ws (j : Int))
  | 0, i, ws, hn, hw => by
    refine ⟨fun ⟨j, j0, j1, _⟩ => by omega, fun _ => ⟨ws, fun k hk => ?_, hw, fun j hj => by rw [if_neg (by omega)]⟩⟩
    obtain ⟨k, rfl⟩ : ∃ k', k = k' + 1 := ⟨k - 1, by omega⟩
    rw [synth_begin.l0, if_neg (by omega)]
  | n + 1, i, ws, hn, hw => by
    obtain ⟨e, e1, e2⟩ := p_eq h (i := i) (by omega)
    have hm : Int.tmod (t : Int) (Pe l i) = ((t % p l i : Nat) : Int) := by
      rw [e, Int.tmod_eq_emod_of_nonneg (by omega)]; omega
    have st : ∀ k, synth_begin.l0 (k + 1) l t i ws = if t % p l i = 0 then (if rd ws (i : Int) > 0 then some (false, ws) else synth_begin.l0 k l t ((i + 1 : Nat) : Int) (ws.set i (Bu l i))) else synth_begin.l0 k l t ((i + 1 : Nat) : Int) ws := by
      intro k
      rw [synth_begin.l0, if_pos (by omega), if_neg (show ¬ (rd_T54 l (i : Int)).f0 = 0 from fun q => by have : Pe l i = 0 := q; omega)]
      show (if Int.tmod (t : Int) (Pe l i) = 0 then _ else _) = _
      rw [hm, if_pos (show (i : Int) < (ws.length : Int) by omega)]
      by_cases c : t % p l i = 0
      · rw [if_pos c, if_pos (by omega)]; rfl
      · rw [if_neg c, if_neg (by omega)]; rfl
    by_cases c : t % p l i = 0
    · by_cases c2 : rd ws (i : Int) > 0
      · refine ⟨fun _ => ⟨ws, fun k hk => ?_⟩, fun q => by have := q i (by omega) (by omega) c; omega⟩
        obtain ⟨k, rfl⟩ : ∃ k', k = k' + 1 := ⟨k - 1, by omega⟩
        rw [st, if_pos c, if_pos c2]
      · obtain ⟨ih1, ih2⟩ := begin_ev l h hl t n (i + 1) (ws.set i (Bu l i)) (by omega) (by simpa using hw)
        refine ⟨fun ⟨j, j0, j1, j2, j3⟩ => ?_, fun q => ?_⟩
        · have hj : j ≠ i := by rintro rfl; exact c2 j3
          obtain ⟨ws', q1⟩ := ih1 ⟨j, by omega, j1, j2, by rw [rd_set ws i j _ (by omega), if_neg (by omega)]; exact j3⟩
          refine ⟨ws', fun k hk => ?_⟩
          obtain ⟨k, rfl⟩ : ∃ k', k = k' + 1 := ⟨k - 1, by omega⟩
          rw [st, if_pos c, if_neg c2]; exact q1 k (by omega)
        · obtain ⟨ws', q1, q2, q3⟩ := ih2 (fun j j0 j1 j2 => by rw [rd_set ws i j _ (by omega), if_neg (by omega)]; exact q j (by omega) j1 j2)
          refine ⟨ws', fun k hk => ?_, q2, fun j hj => ?_⟩
          · obtain ⟨k, rfl⟩ : ∃ k', k = k' + 1 := ⟨k - 1, by omega⟩
            rw [st, if_pos c, if_neg c2]; exact q1 k (by omega)
          · rw [q3 j hj, rd_set ws i j _ (by omega)]
            by_cases ej : i = j
            · subst ej; rw [if_neg (by omega), if_pos rfl, if_pos ⟨Nat.le_refl _, c⟩]
            · rw [if_neg ej]
              by_cases c3 : i + 1 ≤ j ∧ t % p l j = 0
              · rw [if_pos c3, if_pos ⟨by omega, c3.2⟩]
              · rw [if_neg c3, if_neg (fun q => c3 ⟨by omega, q.2⟩)]
    · obtain ⟨ih1, ih2⟩ := begin_ev l h hl t n (i + 1) ws (by omega) hw
      refine ⟨fun ⟨j, j0, j1, j2, j3⟩ => ?_, fun q => ?_⟩
      · have hj : j ≠ i := by rintro rfl; exact c j2
        obtain ⟨ws', q1⟩ := ih1 ⟨j, by omega, j1, j2, j3⟩
        refine ⟨ws', fun k hk => ?_⟩
        obtain ⟨k, rfl⟩ : ∃ k', k = k' + 1 := ⟨k - 1, by omega⟩
        rw [st, if_neg c]; exact q1 k (by omega)
      · obtain ⟨ws', q1, q2, q3⟩ := ih2 (fun j j0 j1 j2 => q j (by omega) j1 j2)
        refine ⟨ws', fun k hk => ?_, q2, fun j hj => ?_⟩
        · obtain ⟨k, rfl⟩ : ∃ k', k = k' + 1 := ⟨k - 1, by omega⟩
          rw [st, if_neg c]; exact q1 k (by omega)
        · rw [q3 j hj]
          by_cases ej : i = j
          · subst ej; rw [if_neg (by omega), if_neg (fun q => c q.2)]
          · by_cases c3 : i + 1 ≤ j ∧ t % p l j = 0
            · rw [if_pos c3, if_pos ⟨by omega, c3.2⟩]
            · rw [if_neg c3, if_neg (fun q => c3 ⟨by omega, q.2⟩)]

/-! ### Both lay alike -/
def InvL (l : List S54) (t : Nat) (g ws : List Int) : Prop := ws.length = l.length ∧ g.length = t ∧ ∀ j : Nat, j < l.length → rd ws (j : Int) = if t = 0 then 0 else Bu l j - hadN g j (ps l j (t - 1))
def PK (l : List S54) (g : List Int) : Prop := ∀ t : Nat, t < g.length → IsPick 0 l.length (fun j => wt l (g.take t) j t) (fun j => dl l j t) (rd g (t : Int))
theorem ps_pred {q t : Nat} (hq : 1 ≤ q) (ht : 0 < t) (h : t % q = 0) : (t - 1) / q * q = t - q := by
  obtain ⟨c, rfl⟩ := Nat.dvd_of_mod_eq_zero h
  have hc : 0 < c := Nat.pos_of_mul_pos_left ht |> fun _ => by rcases Nat.eq_zero_or_pos c with e | e; (· subst e; simp at ht); (· exact e)
  have : (q * c - 1) / q = c - 1 := by
    obtain ⟨d, rfl⟩ : ∃ d, c = d + 1 := ⟨c - 1, by omega⟩
    rw [show q * (d + 1) - 1 = q * d + (q - 1) by rw [Nat.mul_add]; omega, Nat.mul_add_div (by omega), Nat.div_eq_of_lt (by omega)]; omega
  rw [this, Nat.mul_comm, Nat.mul_sub]; simp
theorem ps_same {q t : Nat} (hq : 1 ≤ q) (ht : 0 < t) (h : t % q ≠ 0) : (t - 1) / q * q = t / q * q := by
  obtain ⟨d, rfl⟩ : ∃ d, t = d + 1 := ⟨t - 1, by omega⟩
  congr 1
  rw [Nat.add_sub_cancel, Nat.succ_div, if_neg (fun q2 => h (Nat.mod_eq_zero_of_dvd q2))]; rfl
theorem good_begin {l : List S54} (h : RtAll l) {t : Nat} {g ws : List Int} (i : InvL l t g ws) : good l t g ↔ ∀ j, 0 ≤ j → j < l.length → t % p l j = 0 → rd ws (j : Int) ≤ 0 := by
  obtain ⟨i1, i2, i3⟩ := i
  constructor
  · intro q j _ hj hm
    rw [i3 j hj]
    by_cases c : t = 0
    · rw [if_pos c]; omega
    · rw [if_neg c]
      have := q j hj hm (by omega)
      obtain ⟨e, e1, e2⟩ := p_eq h hj
      unfold ps
      rw [ps_pred e1 (by omega) hm]; omega
  · intro q j hj hm ht
    have := q j (by omega) hj hm
    rw [i3 j hj, if_neg (by omega)] at this
    obtain ⟨e, e1, e2⟩ := p_eq h hj
    unfold ps at this
    rw [ps_pred e1 (by omega) hm] at this; omega
theorem wants_begun {l : List S54} (h : RtAll l) {t : Nat} {g ws ws' : List Int} (i : InvL l t g ws) (q : ∀ j : Nat, j < l.length → rd ws' (j : Int) = if 0 ≤ j ∧ t % p l j = 0 then Bu l j else rd ws (j : Int)) (j : Nat) (hj : j < l.length) : rd ws' (j : Int) = wt l g j t := by
  obtain ⟨i1, i2, i3⟩ := i
  obtain ⟨e, e1, e2⟩ := p_eq h hj
  rw [q j hj]
  unfold wt
  by_cases c : t % p l j = 0
  · rw [if_pos ⟨by omega, c⟩]
    have : ps l j t = g.length := by
      unfold ps
      have := Nat.div_add_mod t (p l j)
      rw [Nat.mul_comm] at this; omega
    rw [this, hadN_end]; omega
  · have ht : 0 < t := by rcases Nat.eq_zero_or_pos t with e | e; (· subst e; simp at c); (· exact e)
    rw [if_neg (fun q => c q.2), i3 j hj, if_neg (by omega)]
    unfold ps
    rw [ps_same e1 ht c]
theorem good_take {l : List S54} {t : Nat} {g : List Int} (s : Nat) (hs : s ≤ g.length) (x : Int) : good l s ((g ++ [x]).take s) ↔ good l s (g.take s) := by
  rw [List.take_append_of_le_length hs]
open Classical in
theorem run (l : List S54) (h : RtAll l) (hl : l.length ≤ 4) (fr : Nat) (hfr : fr ≤ 240) : ∀ n (t : Nat) (g ws : List Int), fr = t + n → InvL l t g ws → PK l g → (∀ s, s ≤ t → good l s (g.take s)) →
    (∃ G, G.length = fr ∧ PK l G ∧ (∀ s, s ≤ fr → good l s (G.take s)) ∧ (∀ k, n + 10 ≤ k → synth_Lay.l0 k l fr t ws g = some (G, 0)) ∧ ∀ k, n * 1020 + 2000 ≤ k → remontoirref12_Lay.l0 k l fr g t = some (G, 0)) ∨
    (∃ G e, 1 ≤ e ∧ e ≤ fr ∧ G.length = e ∧ PK l G ∧ (∀ s, s < e → good l s (G.take s)) ∧ ¬ good l e G ∧ (∀ k, n + 10 ≤ k → synth_Lay.l0 k l fr t ws g = some ([], 7)) ∧ ∀ k, n * 1020 + 2000 ≤ k → remontoirref12_Lay.l0 k l fr g t = some ([], 7))
  | 0, t, g, ws, hn, hi, hp, hg => by
    left
    have hg2 := hi.2.1
    have hgt := hg t (Nat.le_refl _)
    rw [List.take_of_length_le (by omega)] at hgt
    obtain ⟨ws', b1, b2, b3⟩ := (begin_ev l h hl t l.length 0 ws (by omega) hi.1).2 ((good_begin h hi).1 hgt)
    refine ⟨g, by omega, hp, fun s hs => hg s (by omega), fun k hk => ?_, fun k hk => ?_⟩
    · obtain ⟨k, rfl⟩ : ∃ k', k = k' + 1 := ⟨k - 1, by omega⟩
      have := b1 k (by omega)
      rw [synth_Lay.l0, if_neg (by omega), show (fr : Int) = (t : Int) by omega]
      rw [show ((0 : Nat) : Int) = 0 from rfl] at this
      rw [this]; rfl
    · obtain ⟨k, rfl⟩ : ∃ k', k = k' + 1 := ⟨k - 1, by omega⟩
      rw [remontoirref12_Lay.l0, if_neg (by omega)]
  | n + 1, t, g, ws, hn, hi, hp, hg => by
    have hg2 := hi.2.1
    have hgt := hg t (Nat.le_refl _)
    rw [List.take_of_length_le (by omega)] at hgt
    obtain ⟨ws1, b1, b2, b3⟩ := (begin_ev l h hl t l.length 0 ws (by omega) hi.1).2 ((good_begin h hi).1 hgt)
    have hw1 := fun j hj => wants_begun h hi b3 j hj
    obtain ⟨o, o1, o2⟩ := next_l0 l h hl ws1 b2 t l.length 0 (-1) 0 (by omega) (.inl ⟨rfl, fun j _ j1 => by omega⟩) (fun m q => by omega)
    have o3 : IsPick 0 l.length (fun j => wt l g j t) (fun j => dl l j t) o := by
      rcases o2 with ⟨h1, h2⟩ | ⟨m, h1, h2, h3, h4, h5⟩
      · exact .inl ⟨h1, fun j j0 j1 => by dsimp only; rw [← hw1 j j1]; exact h2 j j0 j1⟩
      · exact .inr ⟨m, h1, h2, h3, by dsimp only; rw [← hw1 m h3]; exact h4, fun j j0 j1 j2 => h5 j j0 j1 (by dsimp only at j2; rw [← hw1 j j1] at j2; exact j2)⟩
    obtain ⟨ws2, n1, n2, n3⟩ : ∃ ws2, (∀ k, 10 ≤ k → synth_next.f k l ws1 t = some (o, ws2)) ∧ ws2.length = l.length ∧ ∀ j : Nat, j < l.length → rd ws2 (j : Int) = wt l g j t - if o = (j : Int) then 1 else 0 := by
      rcases o3 with ⟨h1, h2⟩ | ⟨m, h1, h2, h3, h4, h5⟩
      · refine ⟨ws1, fun k hk => ?_, b2, fun j hj => by rw [hw1 j hj, if_neg (by omega)]; omega⟩
        unfold synth_next.f
        have := o1 k (by omega)
        rw [show ((0 : Nat) : Int) = 0 from rfl] at this
        rw [if_pos (by omega), this, Option.bind_some, if_pos h1, h1]
      · have hb := hadN_le g m (ps l m t)
        obtain ⟨r1, r2, r3⟩ := h m h3
        have hm := hw1 m h3
        have h4' := h4
        dsimp only at h4'
        unfold wt at h4'
        refine ⟨ws1.set m (rd ws1 (m : Int) - 1), fun k hk => ?_, by simpa using b2, fun j hj => ?_⟩
        · unfold synth_next.f
          have := o1 k (by omega)
          rw [show ((0 : Nat) : Int) = 0 from rfl] at this
          have hm2 : rd ws1 o = wt l g m t := by rw [h1]; exact hm
          rw [if_pos (by omega), this, Option.bind_some, if_neg (by omega), if_pos ⟨by omega, by omega, by rw [hm2]; exact Int.le_of_lt h4, by rw [hm2]; unfold wt; omega⟩, h1, Int.toNat_natCast]
        · rw [rd_set _ _ _ _ (by omega), hw1 j hj]
          by_cases ej : m = j
          · subst ej; rw [if_pos rfl, if_pos h1, hm]
          · rw [if_neg ej, if_neg (by omega)]; omega
    have hi' : InvL l (t + 1) (g ++ [o]) ws2 := by
      refine ⟨n2, by rw [List.length_append, List.length_singleton, hg2], fun j hj => ?_⟩
      rw [n3 j hj, if_neg (show ¬ (t + 1 = 0) by omega), Nat.add_sub_cancel, hadN_snoc _ _ _ _ (by have := ps_le l j t; omega)]
      unfold wt; omega
    have hlen : (g ++ [o]).length = t + 1 := by rw [List.length_append, List.length_singleton, hg2]
    have hp' : PK l (g ++ [o]) := by
      intro s hs
      rw [hlen] at hs
      by_cases c : s = t
      · subst c
        rw [List.take_append_of_le_length (by omega), List.take_of_length_le (by omega), rd_get _ _ (by rw [hlen]; omega)]
        rw [List.getElem_append_right (by omega)]
        simpa using o3
      · have := hp s (by omega)
        rw [List.take_append_of_le_length (by omega), rd_get _ _ (by rw [hlen]; omega), List.getElem_append_left (by omega), ← rd_get g s (by omega)]
        exact this
    have sst : ∀ k, 10 ≤ k → synth_Lay.l0 (k + 1) l fr t ws g = synth_Lay.l0 k l fr ((t + 1 : Nat) : Int) ws2 (g ++ [o]) := by
      intro k hk
      have := b1 k (by omega)
      rw [show ((0 : Nat) : Int) = 0 from rfl] at this
      rw [synth_Lay.l0, if_pos (by omega), this, Option.bind_some, if_pos rfl]
      dsimp only
      rw [n1 k hk, Option.bind_some, if_pos (by omega)]; rfl
    have rst : ∀ r F, (∀ k, F ≤ k → (if good l (t + 1) (g ++ [o]) then remontoirref12_Lay.l0 k l fr (g ++ [o]) ((t : Int) + 1) else some ([], 7)) = r) → ∀ k, F + 1020 ≤ k → remontoirref12_Lay.l0 k l fr g t = r := by
      intro r F H k hk
      obtain ⟨k, rfl⟩ : ∃ k', k = k' + 1 := ⟨k - 1, by omega⟩
      rw [remontoirref12_Lay.l0, if_pos (by omega), w64 (by omega) (by omega), show (t : Int) = (g.length : Int) by omega]
      refine rpick l h hl fr g (by omega) (F := F + 504) l.length (-1) (Nat.le_refl _) (.inl ⟨rfl, fun j j0 j1 => by omega⟩) (fun o' q k hk => ?_) k (by omega)
      rw [hg2] at q
      rw [pick_unique q o3, hg2]
      exact rcheck (F := F) l h hl fr (g ++ [o]) t hlen (by omega) H l.length 0 (by omega) (fun j hj => by omega) k (by omega)
    by_cases c : good l (t + 1) (g ++ [o])
    · have ih := run l h hl fr hfr n (t + 1) (g ++ [o]) ws2 (by omega) hi' hp' (fun s hs => by
        by_cases e : s = t + 1
        · subst e; rw [List.take_of_length_le (by omega)]; exact c
        · rw [good_take (t := t) s (by omega) o]; exact hg s (by omega))
      have rr : ∀ r, (∀ k, n * 1020 + 2000 ≤ k → remontoirref12_Lay.l0 k l fr (g ++ [o]) ((t + 1 : Nat) : Int) = r) → ∀ k, (n + 1) * 1020 + 2000 ≤ k → remontoirref12_Lay.l0 k l fr g t = r := by
        intro r q k hk
        exact rst r (n * 1020 + 2000) (fun k hk => by rw [if_pos c]; exact q k hk) k (by omega)
      rcases ih with ⟨G, q1, q2, q3, q4, q5⟩ | ⟨G, e, q1, q2, q3, q4, q5, q6, q7, q8⟩
      · left
        refine ⟨G, q1, q2, q3, fun k hk => ?_, rr _ q5⟩
        obtain ⟨k, rfl⟩ : ∃ k', k = k' + 1 := ⟨k - 1, by omega⟩
        rw [sst k (by omega)]; exact q4 k (by omega)
      · right
        refine ⟨G, e, q1, q2, q3, q4, q5, q6, fun k hk => ?_, rr _ q8⟩
        obtain ⟨k, rfl⟩ : ∃ k', k = k' + 1 := ⟨k - 1, by omega⟩
        rw [sst k (by omega)]; exact q7 k (by omega)
    · right
      refine ⟨g ++ [o], t + 1, by omega, by omega, hlen, hp', fun s hs => by rw [good_take (t := t) s (by omega) o]; exact hg s (by omega), c, fun k hk => ?_, fun k hk => ?_⟩
      · obtain ⟨k, rfl⟩ : ∃ k', k = k' + 2 := ⟨k - 2, by omega⟩
        rw [show k + 2 = (k + 1) + 1 from rfl, sst (k + 1) (by omega)]
        have hb : ∃ j, 0 ≤ j ∧ j < l.length ∧ (t + 1) % p l j = 0 ∧ 0 < rd ws2 (j : Int) := by
          apply Classical.byContradiction
          intro q
          apply c
          rw [good_begin h hi']
          intro j j0 j1 j2
          apply Classical.byContradiction
          intro q2
          exact q ⟨j, j0, j1, j2, by omega⟩
        obtain ⟨ws3, q3⟩ := (begin_ev l h hl (t + 1) l.length 0 ws2 (by omega) n2).1 hb
        have q4 := q3 k (by omega)
        rw [show ((0 : Nat) : Int) = 0 from rfl] at q4
        rw [synth_Lay.l0]
        by_cases c3 : ((t + 1 : Nat) : Int) < (fr : Int)
        · rw [if_pos c3, q4]; rfl
        · rw [if_neg c3, show (fr : Int) = ((t + 1 : Nat) : Int) by omega, q4]; rfl
      · exact rst _ 0 (fun k _ => by rw [if_neg c]) k (by omega)
end Go.Proofs.Ytkfkghnmbemdiaa.SynthLay
