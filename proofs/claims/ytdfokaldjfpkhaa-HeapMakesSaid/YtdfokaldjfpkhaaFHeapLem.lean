/- What the functions of package heap, and of its reference, come to: lemmas for the statements of layer 2. No condition. -/
import Derived.Test.YtdfokaldjfpkhaaFHeapx0
import Derived.Test.YtdfokaldjfpkhaaFHeapx3
import Derived.Test.YtdfokaldjfpkhaaFHeapx4
import Derived.Test.YtdfokaldjfpkhaaFHeapx5
import Derived.Test.YtdfokaldjfpkhaaFHeapx6
import Derived.Test.YtdfokaldjfpkhaaFHeapx7
import Derived.Test.YtdfokaldjfpkhaaFHeapx8
import Derived.Test.YtdfokaldjfpkhaaFHeapx9
import Derived.Test.YtdfokaldjfpkhaaFHeapx10
import Derived.Test.YtdfokaldjfpkhaaFHeapx14
import Derived.Test.YtdfokaldjfpkhaaHeapMath
namespace Go.Proofs.Ytdfokaldjfpkhaa.HeapLem
open Go.RowKit Go.Proofs.Ytdfokaldjfpkhaa.FHeap Go.Proofs.YtdfokaldjfpkhaaW.PrintWords Go.Proofs.YtdfokaldjfpkhaaW.PrintLast Go.Proofs.Ytdfokaldjfpkhaa.HeapMath
set_option linter.unusedSimpArgs false
set_option linter.unusedVariables false

theorem w64 {n : Int} (h1 : -9223372036854775808 ≤ n) (h2 : n ≤ 9223372036854775807) : wrap64 n = n := by unfold wrap64; omega
theorem knows_ev : ∃ K, ∀ k, K ≤ k → remontoirlaw02_knows.f k = some true := Ev.of (fun k => remontoirlaw02_knows.mono k) (k := 60) (by kernel_rfl)
instance : DecidableEq S34 := fun a b => decidable_of_iff (a.f0 = b.f0 ∧ a.f1 = b.f1) (by cases a; cases b; simp)
instance : DecidableEq S49 := fun a b => decidable_of_iff (a.f0 = b.f0 ∧ a.f1 = b.f1) (by cases a; cases b; simp)

/-! ### The order -/
def Le (a b : S34) : Prop := a.f0 < b.f0 ∨ a.f0 = b.f0 ∧ a.f1 ≤ b.f1
instance (a b : S34) : Decidable (Le a b) := by unfold Le; infer_instance
def Le9 (a b : S49) : Prop := a.f0 < b.f0 ∨ a.f0 = b.f0 ∧ a.f1 ≤ b.f1
instance (a b : S49) : Decidable (Le9 a b) := by unfold Le9; infer_instance
theorem Le.refl (a : S34) : Le a a := by unfold Le; omega
theorem Le.trans {a b c : S34} (h : Le a b) (k : Le b c) : Le a c := by unfold Le at *; omega
theorem Le.of_not {a b : S34} (h : ¬ Le a b) : Le b a := by unfold Le at *; omega
theorem Le9.of_not {a b : S49} (h : ¬ Le9 a b) : Le9 b a := by unfold Le9 at *; omega
theorem Le9.anti {a b : S49} (h : Le9 a b) (k : Le9 b a) : a = b := by
  cases a; cases b; unfold Le9 at *; dsimp only at *
  simp only [S49.mk.injEq]; omega
theorem Le.anti {a b : S34} (h : Le a b) (k : Le b a) : a = b := by
  cases a; cases b; unfold Le at *; dsimp only at *
  simp only [S34.mk.injEq]; omega
theorem Le9.trans {a b c : S49} (h : Le9 a b) (k : Le9 b c) : Le9 a c := by unfold Le9 at *; omega
theorem lw_iff (a b : S34) : heap_downLeast.Lw a b ↔ ¬ Le b a := by unfold Le heap_downLeast.Lw; omega
theorem lower_ev (a b : S34) : heap_lower.f a.f0 a.f1 b.f0 b.f1 = some (decide (¬ Le b a)) := by
  rw [heap_downLeast.low]
  congr 1; apply decide_eq_decide.2; exact lw_iff a b
theorem rlower_ev (a b : S49) : remontoirref02_Lower.f a.f0 a.f1 b.f0 b.f1 = some (decide (¬ Le9 b a)) := by
  unfold remontoirref02_Lower.f Le9
  by_cases h : a.f0 = b.f0
  · rw [if_pos h]; congr 1; apply decide_eq_decide.2; omega
  · rw [if_neg h]; congr 1; apply decide_eq_decide.2; omega
theorem sorted_unique : ∀ {a b : List S49}, a.Pairwise Le9 → b.Pairwise Le9 → a.Perm b → a = b
  | [], b, _, _, h => (List.nil_perm.1 h).symm
  | x :: a, [], _, _, h => absurd (List.Perm.length_eq h) (by simp)
  | x :: a, y :: b, ha, hb, h => by
    have ha' := List.pairwise_cons.1 ha
    have hb' := List.pairwise_cons.1 hb
    have e : x = y := by
      have hx : x ∈ y :: b := h.mem_iff.1 (by simp)
      have hy : y ∈ x :: a := h.mem_iff.2 (by simp)
      rcases List.mem_cons.1 hx with e | hx
      · exact e
      · rcases List.mem_cons.1 hy with e | hy
        · exact e.symm
        · exact Le9.anti (ha'.1 y hy) (hb'.1 x hx)
    subst e
    rw [sorted_unique ha'.2 hb'.2 (List.Perm.cons_inv h)]

/-! ### Sifting -/
abbrev At (h : List S34) (j : Nat) : S34 := ap z34 h j
abbrev OKH (h : List S34) : Prop := OK Le z34 h
theorem at_get (h : List S34) (j : Nat) (hj : j < h.length) : At h j = h[j] := ap_get z34 h j hj
theorem rd_at (h : List S34) (j : Nat) : rd_T34 h (j : Int) = At h j := rfl
theorem par_w (i : Nat) (h0 : 0 < i) (h1 : i < 10000000) : wrap64 (Int.tdiv (wrap64 ((i : Int) - 1)) 2) = (((i - 1) / 2 : Nat) : Int) := by
  rw [w64 (n := (i : Int) - 1) (by omega) (by omega), Int.tdiv_eq_ediv_of_nonneg (by omega), w64 (by omega) (by omega)]
  omega
theorem up_ev : ∀ n (h : List S34) (i : Nat), i ≤ n → h.length < 10000000 → UpInv Le z34 h i → ∃ h', (∀ k, n + 1 ≤ k → heap_up.l0 k h i = some h') ∧ OKH h' ∧ h'.Perm h
  | n, h, i, hn, hl, u => by
    by_cases hi : i = 0
    · refine ⟨h, ?_, up_done u (.inl hi), List.Perm.refl _⟩
      intro k hk
      obtain ⟨k, rfl⟩ : ∃ k', k = k' + 1 := ⟨k - 1, by omega⟩
      rw [heap_up.l0, if_neg (by omega)]
    · have hlt := u.1
      by_cases c : Le (At h ((i - 1) / 2)) (At h i)
      · refine ⟨h, ?_, up_done u (.inr c), List.Perm.refl _⟩
        intro k hk
        obtain ⟨k, rfl⟩ : ∃ k', k = k' + 1 := ⟨k - 1, by omega⟩
        rw [heap_up.l0, if_pos (by omega), if_pos (by omega), if_pos (by omega), par_w i (by omega) (by omega), if_pos (by omega), if_pos (by omega), rd_at, rd_at, lower_ev, Option.bind_some, decide_eq_false (by simpa using c), if_neg (by decide)]
      · match n, hn with
        | 0, hn => omega
        | n + 1, hn =>
          have u2 := up_step (le := Le) (d := z34) (h := h) (i := i) (fun a b => Le.trans a b) u (by omega) (Le.of_not (a := At h ((i - 1) / 2)) (b := At h i) c)
          obtain ⟨h', e, o, p⟩ := up_ev n _ ((i - 1) / 2) (by omega) (by rw [swap_len]; exact hl) u2
          refine ⟨h', ?_, o, p.trans (swap_perm _ _ _ _ u.1 (by omega))⟩
          intro k hk
          obtain ⟨k, rfl⟩ : ∃ k', k = k' + 1 := ⟨k - 1, by omega⟩
          rw [heap_up.l0, if_pos (by omega), if_pos (by omega), if_pos (by omega), par_w i (by omega) (by omega), if_pos (by omega), if_pos (by omega), rd_at, rd_at, lower_ev, Option.bind_some, decide_eq_true (by simpa using c), if_pos rfl]
          exact e k (by omega)
theorem st_nat (l : List S34) (o k : Nat) : heap_downLeast.st l (o : Int) (k : Int) = ((if k < l.length ∧ ¬ Le (At l o) (At l k) then k else o : Nat) : Int) := by
  unfold heap_downLeast.st
  by_cases c : k < l.length ∧ ¬ Le (At l o) (At l k)
  · rw [if_pos c, if_pos ⟨by omega, (lw_iff _ _).2 c.2⟩]
  · rw [if_neg c, if_neg (fun h => c ⟨by omega, (lw_iff _ _).1 h.2⟩)]
theorem least_spec (l : List S34) (i : Nat) : ∃ m : Nat, heap_downLeast.f l (i : Int) = (m : Int) ∧ (m = i ∨ (m < l.length ∧ 0 < m ∧ (m - 1) / 2 = i ∧ Le (At l m) (At l i))) ∧
    ∀ j, 0 < j → j < l.length → (j - 1) / 2 = i → Le (At l m) (At l j) := by
  unfold heap_downLeast.f
  have e1 : (2 * (i : Int) + 1) = ((2 * i + 1 : Nat) : Int) := by omega
  have e2 : (2 * (i : Int) + 2) = ((2 * i + 2 : Nat) : Int) := by omega
  rw [e1, e2, st_nat, st_nat]
  refine ⟨_, rfl, ?_⟩
  have hj : ∀ j, 0 < j → (j - 1) / 2 = i → j = 2 * i + 1 ∨ j = 2 * i + 2 := fun j _ _ => by omega
  by_cases c1 : 2 * i + 1 < l.length ∧ ¬ Le (At l i) (At l (2 * i + 1))
  · rw [if_pos c1]
    by_cases c2 : 2 * i + 2 < l.length ∧ ¬ Le (At l (2 * i + 1)) (At l (2 * i + 2))
    · rw [if_pos c2]
      have q := Le.of_not c2.2
      refine ⟨.inr ⟨c2.1, by omega, by omega, q.trans (Le.of_not c1.2)⟩, ?_⟩
      intro j j0 j1 j2
      rcases hj j j0 j2 with rfl | rfl
      · exact q
      · exact Le.refl _
    · rw [if_neg c2]
      refine ⟨.inr ⟨c1.1, by omega, by omega, Le.of_not c1.2⟩, ?_⟩
      intro j j0 j1 j2
      rcases hj j j0 j2 with rfl | rfl
      · exact Le.refl _
      · exact Classical.byContradiction fun h => c2 ⟨j1, h⟩
  · rw [if_neg c1]
    by_cases c2 : 2 * i + 2 < l.length ∧ ¬ Le (At l i) (At l (2 * i + 2))
    · rw [if_pos c2]
      refine ⟨.inr ⟨c2.1, by omega, by omega, Le.of_not c2.2⟩, ?_⟩
      intro j j0 j1 j2
      rcases hj j j0 j2 with rfl | rfl
      · exact (Le.of_not c2.2).trans (Classical.byContradiction fun h => c1 ⟨j1, h⟩)
      · exact Le.refl _
    · rw [if_neg c2]
      refine ⟨.inl rfl, ?_⟩
      intro j j0 j1 j2
      rcases hj j j0 j2 with rfl | rfl
      · exact Classical.byContradiction fun h => c1 ⟨j1, h⟩
      · exact Classical.byContradiction fun h => c2 ⟨j1, h⟩
theorem down_ev : ∀ n (h : List S34) (i : Nat), h.length ≤ i + n → DownInv Le z34 h i → ∃ h', (∀ k, n + 2 ≤ k → heap_down.l0 k h i = some h') ∧ OKH h' ∧ h'.Perm h
  | n, h, i, hn, u => by
    obtain ⟨m, em, c, cl⟩ := least_spec h i
    by_cases hm : m = i
    · refine ⟨h, ?_, down_done u (hm ▸ cl), List.Perm.refl _⟩
      intro k hk
      obtain ⟨k, rfl⟩ : ∃ k', k = k' + 1 := ⟨k - 1, by omega⟩
      rw [heap_down.l0, em, if_pos (by omega)]
    · obtain ⟨c1, c2, c3, c4⟩ := c.resolve_left hm
      match n, hn with
      | 0, hn => omega
      | n + 1, hn =>
        have u2 := down_step u c1 c2 c3 cl c4
        obtain ⟨h', e, o, p⟩ := down_ev n _ m (by rw [swap_len]; omega) u2
        refine ⟨h', ?_, o, p.trans (swap_perm _ _ _ _ (by omega) c1)⟩
        intro k hk
        obtain ⟨k, rfl⟩ : ∃ k', k = k' + 1 := ⟨k - 1, by omega⟩
        rw [heap_down.l0, em, if_neg (by omega)]
        exact e k (by omega)

/-! ### The program's functions -/
theorem up_push (h : List S34) (x : S34) (o : OKH h) (hl : h.length < 1000000) : ∃ h', (∀ k, h.length + 1 ≤ k → heap_up.f k (h ++ [x]) = some h') ∧ OKH h' ∧ h'.Perm (h ++ [x]) := by
  obtain ⟨h', e, o', p⟩ := up_ev h.length (h ++ [x]) h.length (Nat.le_refl _) (by simp; omega) (push_inv x o)
  refine ⟨h', ?_, o', p⟩
  intro k hk
  unfold heap_up.f
  have : wrap64 (((h ++ [x]).length : Int) - 1) = (h.length : Int) := by rw [w64 (by rw [List.length_append, List.length_singleton]; omega) (by rw [List.length_append, List.length_singleton]; omega), List.length_append, List.length_singleton]; (try omega)
  rw [this]; exact e k hk
theorem take_snoc (l : List S34) (j : Nat) (hj : j < l.length) : l.take (j + 1) = l.take j ++ [At l j] := by
  rw [List.take_add_one, List.getElem?_eq_getElem hj, ← at_get l j hj]; rfl
theorem make_ev : ∀ n (l x : List S34) (j : Nat), l.length = j + n → l.length < 1000000 → OKH x → x.Perm (l.take j) → ∃ h', (∀ k, n + l.length + 3 ≤ k → heap_Make.l0 k x l l.length j = some h') ∧ OKH h' ∧ h'.Perm l
  | 0, l, x, j, hn, hl, o, p => by
    refine ⟨x, ?_, o, by rw [List.take_of_length_le (by omega)] at p; exact p⟩
    intro k hk
    obtain ⟨k, rfl⟩ : ∃ k', k = k' + 1 := ⟨k - 1, by omega⟩
    rw [heap_Make.l0, if_neg (by omega)]
  | n + 1, l, x, j, hn, hl, o, p => by
    have hx : x.length = j := by rw [p.length_eq, List.length_take]; omega
    obtain ⟨h1, e1, o1, p1⟩ := up_push x (At l j) o (by omega)
    obtain ⟨h', e, o', p'⟩ := make_ev n l h1 (j + 1) (by omega) hl o1 (by rw [take_snoc l j (by omega)]; exact p1.trans (List.Perm.append_right _ p))
    refine ⟨h', ?_, o', p'⟩
    intro k hk
    obtain ⟨k, rfl⟩ : ∃ k', k = k' + 1 := ⟨k - 1, by omega⟩
    rw [heap_Make.l0, if_pos (by omega), if_pos (by omega), if_pos (by omega), if_pos (by omega), rd_at, e1 k (by omega), Option.bind_some, w64 (by omega) (by omega)]
    exact e k (by omega)
theorem ok_nil : OKH [] := fun j _ h => absurd h (by simp)
theorem Make_ev (l : List S34) (hl : l.length < 1000000) : ∃ h', (∀ k, 2 * l.length + 3 ≤ k → heap_Make.f k l = some h') ∧ OKH h' ∧ h'.Perm l := by
  obtain ⟨h', e, o, p⟩ := make_ev l.length l [] 0 (by omega) hl ok_nil (by simp)
  exact ⟨h', fun k hk => e k (by omega), o, p⟩
theorem right_true : ∀ n (l : List S34) (i : Nat), l.length ≤ i + n → 0 < i → l.length < 1000000 → (∀ j, i ≤ j → j < l.length → Le (At l ((j - 1) / 2)) (At l j)) → ∀ k, n + 1 ≤ k → heap_Right.l0 k l i = some true
  | n, l, i, hn, h0, hl, c, k, hk => by
    obtain ⟨k, rfl⟩ : ∃ k', k = k' + 1 := ⟨k - 1, by omega⟩
    by_cases hi : i < l.length
    · match n, hn, hk with
      | 0, hn, hk => omega
      | n + 1, hn, hk =>
        rw [heap_Right.l0, if_pos (by omega), if_pos (by omega), par_w i h0 (by omega), if_pos (by omega), if_pos (by omega), rd_at, rd_at, lower_ev, Option.bind_some, decide_eq_false (by simpa using c i (Nat.le_refl _) hi), if_neg (by decide), w64 (by omega) (by omega)]
        exact right_true n l (i + 1) (by omega) (by omega) hl (fun j h1 h2 => c j (by omega) h2) k (by omega)
    · rw [heap_Right.l0, if_neg (by omega)]
theorem right_false : ∀ n (l : List S34) (i : Nat), l.length ≤ i + n → 0 < i → l.length < 1000000 → (∃ j, i ≤ j ∧ j < l.length ∧ ¬ Le (At l ((j - 1) / 2)) (At l j)) → ∀ k, n + 1 ≤ k → heap_Right.l0 k l i = some false
  | n, l, i, hn, h0, hl, ⟨j, j1, j2, j3⟩, k, hk => by
    obtain ⟨k, rfl⟩ : ∃ k', k = k' + 1 := ⟨k - 1, by omega⟩
    match n, hn, hk with
    | 0, hn, hk => omega
    | n + 1, hn, hk =>
      rw [heap_Right.l0, if_pos (by omega), if_pos (by omega), par_w i h0 (by omega), if_pos (by omega), if_pos (by omega), rd_at, rd_at, lower_ev, Option.bind_some]
      by_cases c : Le (At l ((i - 1) / 2)) (At l i)
      · rw [decide_eq_false (by simpa using c), if_neg (by decide), w64 (by omega) (by omega)]
        have : i ≠ j := by rintro rfl; exact j3 c
        exact right_false n l (i + 1) (by omega) (by omega) hl ⟨j, by omega, j2, j3⟩ k (by omega)
      · rw [decide_eq_true (by simpa using c), if_pos rfl]
noncomputable instance (l : List S34) : Decidable (OKH l) := Classical.propDecidable _
theorem Right_ev (l : List S34) (hl : l.length < 1000000) (k : Nat) (hk : l.length + 1 ≤ k) : heap_Right.f k l = some (decide (OKH l)) := by
  unfold heap_Right.f
  by_cases c : OKH l
  · rw [decide_eq_true c]; exact right_true l.length l 1 (by omega) (by omega) hl (fun j h1 h2 => c j (by omega) h2) k hk
  · rw [decide_eq_false c]
    refine right_false l.length l 1 (by omega) (by omega) hl ?_ k hk
    unfold OKH OK at c
    simp only [Classical.not_forall] at c
    obtain ⟨j, h1, h2, h3⟩ := c
    exact ⟨j, by omega, h2, h3⟩
theorem own_ev (l : List S34) (hl : l.length < 1000000) : ∃ h', (∀ k, 2 * l.length + 3 ≤ k → heap_own.f k l = some h') ∧ OKH h' ∧ h'.Perm l := by
  by_cases c : OKH l
  · refine ⟨l, ?_, c, List.Perm.refl _⟩
    intro k hk
    unfold heap_own.f
    rw [Right_ev l hl k (by omega), Option.bind_some, decide_eq_true c, if_pos rfl, Option.bind_some, if_pos (by simp; omega)]; rfl
  · obtain ⟨h', e, o, p⟩ := Make_ev l hl
    refine ⟨h', ?_, o, p⟩
    intro k hk
    unfold heap_own.f
    rw [Right_ev l hl k (by omega), Option.bind_some, decide_eq_false c, if_neg (by decide), e k hk]; rfl
theorem Push_ev (l : List S34) (a b : Int) (hl : l.length < 100000) : ∃ h', (∀ k, 2 * l.length + 3 ≤ k → heap_Push.f k l a b = some h') ∧ OKH h' ∧ h'.Perm (l ++ [⟨a, b⟩]) := by
  obtain ⟨h1, e1, o1, p1⟩ := own_ev l (by omega)
  have q := p1.length_eq
  obtain ⟨h', e, o, p⟩ := up_push h1 ⟨a, b⟩ o1 (by omega)
  refine ⟨h', ?_, o, p.trans (List.Perm.append_right _ p1)⟩
  intro k hk
  unfold heap_Push.f
  rw [e1 k hk, Option.bind_some, Option.bind_some, if_pos (by simp; omega), e k (by omega)]; rfl
theorem head_all (h l : List S34) (o : OKH h) (p : h.Perm l) (y : S34) (hy : y ∈ l) : Le (At h 0) y := by
  have : y ∈ h := p.mem_iff.2 hy
  obtain ⟨j, hj, rfl⟩ := List.getElem_of_mem this
  rw [← at_get h j hj]
  exact head_le Le.refl (fun a b => Le.trans a b) o j j (Nat.le_refl _) hj
theorem Min_nil (k : Nat) : heap_Min.f k [] = some (0, 0, 4) := rfl
theorem Min_ev (l : List S34) (hl : l.length < 1000000) (h0 : l ≠ []) : ∃ x : S34, (∀ k, 2 * l.length + 3 ≤ k → heap_Min.f k l = some (x.f0, x.f1, 0)) ∧ x ∈ l ∧ ∀ y ∈ l, Le x y := by
  obtain ⟨h, e, o, p⟩ := own_ev l hl
  have q := p.length_eq
  have hp : 0 < l.length := List.length_pos_iff.2 h0
  refine ⟨At h 0, ?_, ?_, fun y hy => head_all h l o p y hy⟩
  · intro k hk
    unfold heap_Min.f
    rw [if_neg (by omega), e k hk, Option.bind_some, if_pos (by omega)]; rfl
  · rw [at_get h 0 (by omega)]; exact p.mem_iff.1 (List.getElem_mem _)
theorem Pop_nil (k : Nat) : heap_Pop.f k [] = some (0, 0, [], 4) := rfl
theorem pop_perm (h : List S34) (h0 : 0 < h.length) : (At h 0 :: (h.set 0 (At h (h.length - 1))).take (h.length - 1)).Perm h := by
  rcases List.eq_nil_or_concat h with rfl | ⟨t, x, rfl⟩
  · simp at h0
  · rw [List.concat_eq_append]
    have e1 : At (t ++ [x]) ((t ++ [x]).length - 1) = x := by
      rw [at_get _ _ (by simp)]; simp
    rw [e1]
    match t with
    | [] => simp [At, ap]
    | y :: t =>
      have : ((y :: t ++ [x]).set 0 x).take ((y :: t ++ [x]).length - 1) = x :: t := by
        simp
      rw [this]
      have e2 : At (y :: t ++ [x]) 0 = y := rfl
      rw [e2]
      show (y :: x :: t).Perm (y :: (t ++ [x]))
      exact List.Perm.cons _ (by simpa using (List.perm_append_comm (l₁ := [x]) (l₂ := t)))
theorem Pop_ev (l : List S34) (hl : l.length < 1000000) (h0 : l ≠ []) : ∃ (x : S34) (h' : List S34), (∀ k, 2 * l.length + 3 ≤ k → heap_Pop.f k l = some (x.f0, x.f1, h', 0)) ∧ OKH h' ∧ (x :: h').Perm l ∧ ∀ y ∈ l, Le x y := by
  obtain ⟨h, e, o, p⟩ := own_ev l hl
  have q := p.length_eq
  have hp : 0 < l.length := List.length_pos_iff.2 h0
  obtain ⟨h', e', o', p'⟩ := down_ev l.length ((h.set 0 (At h (h.length - 1))).take (h.length - 1)) 0 (by simp; omega) (pop_inv _ o _ (by omega))
  refine ⟨At h 0, h', ?_, o', (List.Perm.cons _ p').trans ((pop_perm h (by omega)).trans p), fun y hy => head_all h l o p y hy⟩
  intro k hk
  have ew : wrap64 ((h.length : Int) - 1) = ((h.length - 1 : Nat) : Int) := by rw [w64 (by omega) (by omega)]; omega
  unfold heap_Pop.f
  rw [if_neg (by omega), e k hk, Option.bind_some, if_pos (by omega), ew, if_pos (by omega), if_pos (by omega), if_pos (by omega)]
  unfold heap_down.f
  rw [if_pos (by simp; omega)]
  have := e' k (by omega)
  rw [show heap_down.l0 k ((h.set (0 : Int).toNat ⟨(rd_T34 h ((h.length - 1 : Nat) : Int)).f0, (rd_T34 h ((h.length - 1 : Nat) : Int)).f1⟩).take (((h.length - 1 : Nat) : Int)).toNat) 0 = some h' from this]
  rfl
theorem sort_ev : ∀ n (x out : List S34), x.length = n → x.length + out.length < 100000 → out.Pairwise Le → (∀ a ∈ out, ∀ b ∈ x, Le a b) → ∃ s, (∀ k, 3 * n + 4 ≤ k → heap_Sort.l0 k x out = some s) ∧ s.Pairwise Le ∧ s.Perm (out ++ x)
  | 0, x, out, hn, hl, so, c => by
    obtain rfl := List.length_eq_zero_iff.1 hn
    refine ⟨out, ?_, so, by simp⟩
    intro k hk
    obtain ⟨k, rfl⟩ : ∃ k', k = k' + 1 := ⟨k - 1, by omega⟩
    rw [heap_Sort.l0, if_neg (by simp)]
  | n + 1, x, out, hn, hl, so, c => by
    obtain ⟨y, h', e, o, p, m⟩ := Pop_ev x (by omega) (by intro h; simp [h] at hn)
    have hlen := p.length_eq
    simp at hlen
    have hy : y ∈ x := p.mem_iff.1 (by simp)
    have hin : ∀ b ∈ h', b ∈ x := fun b hb => p.mem_iff.1 (by simp [hb])
    obtain ⟨s, es, ss, ps⟩ := sort_ev n h' (out ++ [y]) (by omega) (by simp; omega)
      (by rw [List.pairwise_append]; exact ⟨so, by simp, fun a ha b hb => by simp at hb; subst hb; exact c a ha _ hy⟩)
      (by intro a ha b hb; rcases List.mem_append.1 ha with ha | ha
          · exact c a ha b (hin b hb)
          · simp at ha; subst ha; exact m b (hin b hb))
    refine ⟨s, ?_, ss, ps.trans ?_⟩
    · intro k hk
      obtain ⟨k, rfl⟩ : ∃ k', k = k' + 1 := ⟨k - 1, by omega⟩
      rw [heap_Sort.l0, if_pos (by omega), e k (by omega), Option.bind_some, if_pos (by omega)]
      exact es k (by omega)
    · rw [List.append_assoc]; exact List.Perm.append_left _ p
theorem Sort_ev (l : List S34) (hl : l.length < 100000) : ∃ s, (∀ k, 3 * l.length + 4 ≤ k → heap_Sort.f k l = some s) ∧ s.Pairwise Le ∧ s.Perm l := by
  obtain ⟨h, e, o, p⟩ := Make_ev l (by omega)
  have q := p.length_eq
  obtain ⟨s, es, ss, ps⟩ := sort_ev l.length h [] q (by simp; omega) List.Pairwise.nil (by simp)
  refine ⟨s, ?_, ss, (by simpa using ps : s.Perm h).trans p⟩
  intro k hk
  unfold heap_Sort.f
  rw [e k (by omega), Option.bind_some]; exact es k (by omega)
theorem sorted_ok (s : List S34) (h : s.Pairwise Le) : OKH s := by
  intro j h0 h1
  show Le (At s ((j - 1) / 2)) (At s j)
  rw [at_get s j h1, at_get s _ (by omega)]
  exact List.pairwise_iff_getElem.1 h _ _ (by omega) h1 (by omega)

/-! ### The document's functions -/
def cv (x : S34) : S49 := ⟨x.f0, x.f1⟩
def cvs (l : List S34) : List S49 := l.map cv
theorem as_l : ∀ n (l : List S34) (out : List S49) (j : Nat), l.length = j + n → out = cvs (l.take j) → l.length < 1000000 → ∀ k, n + 1 ≤ k → remontoirlaw02_as.l0 k l out j = some (cvs l)
  | 0, l, out, j, hn, ho, hl, k, hk => by
    obtain ⟨k, rfl⟩ : ∃ k', k = k' + 1 := ⟨k - 1, by omega⟩
    rw [remontoirlaw02_as.l0, if_neg (by omega), ho, List.take_of_length_le (by omega)]
  | n + 1, l, out, j, hn, ho, hl, k, hk => by
    obtain ⟨k, rfl⟩ : ∃ k', k = k' + 1 := ⟨k - 1, by omega⟩
    have hx : out.length = j := by rw [ho]; simp [cvs]; omega
    rw [remontoirlaw02_as.l0, if_pos (by omega), if_pos (by omega), if_pos (by omega), w64 (by omega) (by omega)]
    refine as_l n l _ (j + 1) (by omega) ?_ hl k (by omega)
    rw [take_snoc l j (by omega), ho]; simp [cvs]; rfl
theorem as_ev (l : List S34) (hl : l.length < 1000000) (k : Nat) (hk : l.length + 1 ≤ k) : remontoirlaw02_as.f k l = some (cvs l) := as_l l.length l [] 0 (by omega) rfl hl k hk
theorem cvs_len (l : List S34) : (cvs l).length = l.length := by simp [cvs]
abbrev At9 (h : List S49) (j : Nat) : S49 := ap z49 h j
theorem at9_get (h : List S49) (j : Nat) (hj : j < h.length) : At9 h j = h[j] := ap_get z49 h j hj
theorem rd9_at (h : List S49) (j : Nat) : rd_T49 h (j : Int) = At9 h j := rfl
theorem at9_cv (h : List S34) (j : Nat) : At9 (cvs h) j = cv (At h j) := by
  show (cvs h).getD j z49 = cv (h.getD j z34)
  rw [List.getD_eq_getElem?_getD, List.getD_eq_getElem?_getD, cvs, List.getElem?_map]
  cases h[j]? <;> rfl
/-- A place's child. -/
def Ch (i j : Nat) : Prop := j = 2 * i + 1 ∨ j = 2 * i + 2
theorem rr_true {r : Bool} {F : Nat} (x : List S49) (i : Nat) (hi : i < x.length) (hl : x.length < 1000000) (H : ∀ f, F ≤ f → remontoirref02_Right.l0 f x ((i + 1 : Nat) : Int) = some r) : ∀ n (j : Nat), x.length ≤ j + n → (∀ q, j ≤ q → q < x.length → Ch i q → Le9 (At9 x i) (At9 x q)) → ∀ f, F + n + 1 ≤ f → remontoirref02_Right.l1 f x i j = some r
  | n, j, hn, c, f, hf => by
    obtain ⟨f, rfl⟩ : ∃ k', f = k' + 1 := ⟨f - 1, by omega⟩
    by_cases hj : j < x.length
    · match n, hn, hf with
      | 0, hn, hf => omega
      | n + 1, hn, hf =>
        have ih := rr_true x i hi hl H n (j + 1) (by omega) (fun q h1 h2 h3 => c q (by omega) h2 h3) f (by omega)
        rw [remontoirref02_Right.l1, if_pos (by omega), w64 (n := 2 * (i : Int)) (by omega) (by omega), w64 (n := 2 * (i : Int) + 1) (by omega) (by omega), w64 (n := 2 * (i : Int) + 2) (by omega) (by omega), w64 (n := (j : Int) + 1) (by omega) (by omega)]
        by_cases c1 : j = 2 * i + 1
        · rw [if_pos (by omega), if_pos (by omega), if_pos (by omega), if_pos (by omega), rd9_at, rd9_at, rlower_ev, Option.bind_some, decide_eq_false (by simpa using c j (Nat.le_refl _) hj (.inl c1)), if_neg (by decide)]
          exact ih
        · rw [if_neg (by omega)]
          by_cases c2 : j = 2 * i + 2
          · rw [if_pos (by omega), if_pos (by omega), if_pos (by omega), if_pos (by omega), rd9_at, rd9_at, rlower_ev, Option.bind_some, decide_eq_false (by simpa using c j (Nat.le_refl _) hj (.inr c2)), if_neg (by decide)]
            exact ih
          · rw [if_neg (by omega)]; exact ih
    · rw [remontoirref02_Right.l1, if_neg (by omega), w64 (by omega) (by omega)]
      exact H f (by omega)
theorem rr_false (x : List S49) (i : Nat) (hi : i < x.length) (hl : x.length < 1000000) : ∀ n (j : Nat), x.length ≤ j + n → (∃ q, j ≤ q ∧ q < x.length ∧ Ch i q ∧ ¬ Le9 (At9 x i) (At9 x q)) → ∀ f, n + 1 ≤ f → remontoirref02_Right.l1 f x i j = some false
  | n, j, hn, ⟨q, q1, q2, q3, q4⟩, f, hf => by
    obtain ⟨f, rfl⟩ : ∃ k', f = k' + 1 := ⟨f - 1, by omega⟩
    match n, hn, hf with
    | 0, hn, hf => omega
    | n + 1, hn, hf =>
      have ih : q ≠ j → remontoirref02_Right.l1 f x i ((j + 1 : Nat) : Int) = some false := fun hq => rr_false x i hi hl n (j + 1) (by omega) ⟨q, by omega, q2, q3, q4⟩ f (by omega)
      rw [remontoirref02_Right.l1, if_pos (by omega), w64 (n := 2 * (i : Int)) (by omega) (by omega), w64 (n := 2 * (i : Int) + 1) (by omega) (by omega), w64 (n := 2 * (i : Int) + 2) (by omega) (by omega), w64 (n := (j : Int) + 1) (by omega) (by omega)]
      by_cases c1 : j = 2 * i + 1
      · rw [if_pos (by omega), if_pos (by omega), if_pos (by omega), if_pos (by omega), rd9_at, rd9_at, rlower_ev, Option.bind_some]
        by_cases c : Le9 (At9 x i) (At9 x j)
        · rw [decide_eq_false (by simpa using c), if_neg (by decide)]; exact ih (by rintro rfl; exact q4 c)
        · rw [decide_eq_true (by simpa using c), if_pos rfl]
      · rw [if_neg (by omega)]
        by_cases c2 : j = 2 * i + 2
        · rw [if_pos (by omega), if_pos (by omega), if_pos (by omega), if_pos (by omega), rd9_at, rd9_at, rlower_ev, Option.bind_some]
          by_cases c : Le9 (At9 x i) (At9 x j)
          · rw [decide_eq_false (by simpa using c), if_neg (by decide)]; exact ih (by rintro rfl; exact q4 c)
          · rw [decide_eq_true (by simpa using c), if_pos rfl]
        · rw [if_neg (by omega)]; exact ih (by rintro rfl; exact q3.elim c1 c2)
theorem rr0_true (x : List S49) (hl : x.length < 1000000) : ∀ n (i : Nat), x.length = i + n → (∀ p q, i ≤ p → q < x.length → Ch p q → Le9 (At9 x p) (At9 x q)) → ∀ f, n * (x.length + 2) + 1 ≤ f → remontoirref02_Right.l0 f x i = some true
  | 0, i, hn, c, f, hf => by
    obtain ⟨f, rfl⟩ : ∃ k', f = k' + 1 := ⟨f - 1, by omega⟩
    rw [remontoirref02_Right.l0, if_neg (by omega)]
  | n + 1, i, hn, c, f, hf => by
    obtain ⟨f, rfl⟩ : ∃ k', f = k' + 1 := ⟨f - 1, by omega⟩
    rw [remontoirref02_Right.l0, if_pos (by omega)]
    rw [Nat.succ_mul] at hf
    exact rr_true x i (by omega) hl (fun g hg => rr0_true x hl n (i + 1) (by omega) (fun p q h1 => c p q (by omega)) g hg) x.length 0 (by omega) (fun q _ h2 h3 => c i q (Nat.le_refl _) h2 h3) f (by omega)
theorem rr0_false (x : List S49) (hl : x.length < 1000000) : ∀ n (i : Nat), x.length = i + n → (∃ p q, i ≤ p ∧ q < x.length ∧ Ch p q ∧ ¬ Le9 (At9 x p) (At9 x q)) → ∀ f, n * (x.length + 2) + 1 ≤ f → remontoirref02_Right.l0 f x i = some false
  | 0, i, hn, ⟨p, q, h1, h2, h3, h4⟩, f, hf => by unfold Ch at h3; omega
  | n + 1, i, hn, ⟨p, q, h1, h2, h3, h4⟩, f, hf => by
    obtain ⟨f, rfl⟩ : ∃ k', f = k' + 1 := ⟨f - 1, by omega⟩
    rw [remontoirref02_Right.l0, if_pos (by omega)]
    rw [Nat.succ_mul] at hf
    by_cases c : ∃ q, q < x.length ∧ Ch i q ∧ ¬ Le9 (At9 x i) (At9 x q)
    · obtain ⟨q', a, b, d⟩ := c
      exact rr_false x i (by omega) hl x.length 0 (by omega) ⟨q', by omega, a, b, d⟩ f (by omega)
    · have hp : p ≠ i := by rintro rfl; exact c ⟨q, h2, h3, h4⟩
      exact rr_true x i (by omega) hl (fun g hg => rr0_false x hl n (i + 1) (by omega) ⟨p, q, by omega, h2, h3, h4⟩ g hg) x.length 0 (by omega) (fun q' _ a b => Classical.byContradiction fun d => c ⟨q', a, b, d⟩) f (by omega)
theorem RRight_ev (h : List S34) (hl : h.length < 1000) (k : Nat) (hk : 1002001 ≤ k) : remontoirref02_Right.f k (cvs h) = some (decide (OKH h)) := by
  unfold remontoirref02_Right.f
  have hm : (cvs h).length * ((cvs h).length + 2) ≤ 1000 * 1002 := Nat.mul_le_mul (by rw [cvs_len]; omega) (by rw [cvs_len]; omega)
  by_cases c : OKH h
  · rw [decide_eq_true c]
    refine rr0_true (cvs h) (by rw [cvs_len]; omega) (cvs h).length 0 (by omega) ?_ k (by omega)
    intro p q _ h2 h3
    rw [cvs_len] at h2
    rw [at9_cv, at9_cv]
    have := c q (by unfold Ch at h3; omega) h2
    rw [show (q - 1) / 2 = p by unfold Ch at h3; omega] at this
    exact this
  · rw [decide_eq_false c]
    refine rr0_false (cvs h) (by rw [cvs_len]; omega) (cvs h).length 0 (by omega) ?_ k (by omega)
    unfold OKH OK at c
    simp only [Classical.not_forall] at c
    obtain ⟨j, h1, h2, h3⟩ := c
    refine ⟨(j - 1) / 2, j, by omega, by rw [cvs_len]; exact h2, by unfold Ch; omega, ?_⟩
    rw [at9_cv, at9_cv]; exact h3
theorem ins_sorted (x : S49) (out : List S49) (m : Nat) (hm : m ≤ out.length) (so : out.Pairwise Le9) (lo : ∀ q, q < m → Le9 (At9 out q) x) (hi : m < out.length → Le9 x (At9 out m)) : (out.take m ++ [x] ++ out.drop m).Pairwise Le9 := by
  have so' : (out.take m ++ out.drop m).Pairwise Le9 := by rw [List.take_append_drop]; exact so
  have sp := List.pairwise_append.1 so'
  have l1 : ∀ a ∈ out.take m, Le9 a x := by
    intro a ha
    obtain ⟨j, hj, rfl⟩ := List.getElem_of_mem ha
    have hj' : j < m := by simp at hj; omega
    have := lo j hj'
    rw [at9_get out j (by omega)] at this
    simpa using this
  have l2 : ∀ b ∈ out.drop m, Le9 x b := by
    intro b hb
    obtain ⟨j, hj, rfl⟩ := List.getElem_of_mem hb
    have hj' : m + j < out.length := by simp at hj; omega
    have h1 := hi (by omega)
    rw [List.getElem_drop]
    rw [at9_get out m (by omega)] at h1
    by_cases c : j = 0
    · subst c; exact h1
    · exact h1.trans (List.pairwise_iff_getElem.1 so m (m + j) (by omega) hj' (by omega))
  rw [List.append_assoc, List.pairwise_append]
  refine ⟨sp.1, ?_, ?_⟩
  · show (x :: out.drop m).Pairwise Le9
    exact List.pairwise_cons.2 ⟨l2, sp.2.1⟩
  · intro a ha b hb
    rcases List.mem_append.1 hb with hb | hb
    · simp at hb; subst hb; exact l1 a ha
    · exact sp.2.2 a ha b hb
theorem ins_perm (x : S49) (out : List S49) (m : Nat) : (out.take m ++ [x] ++ out.drop m).Perm (out ++ [x]) := by
  have : (out.take m ++ [x] ++ out.drop m).Perm (out.take m ++ out.drop m ++ [x]) := by
    rw [List.append_assoc, List.append_assoc]; exact List.Perm.append_left _ (List.perm_append_comm)
  rw [List.take_append_drop] at this; exact this
theorem take_snoc9 (l : List S49) (j : Nat) (hj : j < l.length) : l.take (j + 1) = l.take j ++ [At9 l j] := by
  rw [List.take_add_one, List.getElem?_eq_getElem hj, ← at9_get l j hj]; rfl
theorem rs1 (x out : List S49) (i : Nat) (hi : i < x.length) (hl : x.length < 100000) (ho : out.length < 100000) (so : out.Pairwise Le9) {F : Nat} {s : List S49}
    (H : ∀ o', o'.Pairwise Le9 → o'.Perm (out ++ [At9 x i]) → ∃ s, (∀ f, F ≤ f → remontoirref02_Sort.l0 f x o' ((i + 1 : Nat) : Int) = some s) ∧ s.Pairwise Le9 ∧ s.Perm x) :
    ∀ n (j : Nat), out.length = j + n → (∀ q, q < j → Le9 (At9 out q) (At9 x i)) → ∃ s, (∀ f, F + n + 1 ≤ f → remontoirref02_Sort.l1 f x out i j = some s) ∧ s.Pairwise Le9 ∧ s.Perm x
  | n, j, hn, lo => by
    by_cases hj : j < out.length
    · by_cases c : Le9 (At9 out j) (At9 x i)
      · match n, hn with
        | 0, hn => omega
        | n + 1, hn =>
          obtain ⟨s, e, ss, sp⟩ := rs1 x out i hi hl ho so (s := s) H n (j + 1) (by omega) (fun q hq => by
            by_cases hq' : q = j
            · subst hq'; exact c
            · exact lo q (by omega))
          refine ⟨s, ?_, ss, sp⟩
          intro f hf
          obtain ⟨f, rfl⟩ : ∃ k', f = k' + 1 := ⟨f - 1, by omega⟩
          rw [remontoirref02_Sort.l1, if_pos (by omega), if_pos (by omega), if_pos (by omega), if_pos (by omega), rd9_at, rd9_at, rlower_ev, Option.bind_some, decide_eq_false (by simpa using c), if_neg (by decide), w64 (by omega) (by omega)]
          exact e f (by omega)
      · obtain ⟨s, e, ss, sp⟩ := H (out.take j ++ [At9 x i] ++ out.drop j) (ins_sorted _ _ _ (by omega) so lo (fun _ => Le9.of_not c)) (ins_perm _ _ _)
        refine ⟨s, ?_, ss, sp⟩
        intro f hf
        obtain ⟨f, rfl⟩ : ∃ k', f = k' + 1 := ⟨f - 1, by omega⟩
        rw [remontoirref02_Sort.l1, if_pos (by omega), if_pos (by omega), if_pos (by omega), if_pos (by omega), rd9_at, rd9_at, rlower_ev, Option.bind_some, decide_eq_true (by simpa using c), if_pos rfl, Option.bind_some, if_pos (by omega), Option.bind_some, if_pos (by simp; omega), Option.bind_some, if_pos (by simp; omega), Option.bind_some, Option.bind_some, if_pos (by simp; omega), w64 (by omega) (by omega)]
        exact e f (by omega)
    · obtain ⟨s, e, ss, sp⟩ := H (out.take j ++ [At9 x i] ++ out.drop j) (ins_sorted _ _ _ (by omega) so lo (fun h => absurd h hj)) (ins_perm _ _ _)
      refine ⟨s, ?_, ss, sp⟩
      intro f hf
      obtain ⟨f, rfl⟩ : ∃ k', f = k' + 1 := ⟨f - 1, by omega⟩
      rw [remontoirref02_Sort.l1, if_neg (by omega), Option.bind_some, if_pos (by omega), if_pos (by omega), Option.bind_some, if_pos (by simp; omega), Option.bind_some, if_pos (by omega), if_pos (by omega), if_pos (by simp; omega), Option.bind_some, Option.bind_some, if_pos (by simp; omega), w64 (by omega) (by omega)]
      exact e f (by omega)
theorem rs0 (x : List S49) (hl : x.length < 100000) : ∀ n (i : Nat) (out : List S49), x.length = i + n → out.Pairwise Le9 → out.Perm (x.take i) → ∃ s, (∀ f, n * (x.length + 2) + 1 ≤ f → remontoirref02_Sort.l0 f x out i = some s) ∧ s.Pairwise Le9 ∧ s.Perm x
  | 0, i, out, hn, so, p => by
    refine ⟨out, ?_, so, by rw [List.take_of_length_le (by omega)] at p; exact p⟩
    intro f hf
    obtain ⟨f, rfl⟩ : ∃ k', f = k' + 1 := ⟨f - 1, by omega⟩
    rw [remontoirref02_Sort.l0, if_neg (by omega)]
  | n + 1, i, out, hn, so, p => by
    have ho : out.length = i := by rw [p.length_eq, List.length_take]; omega
    obtain ⟨s, e, ss, sp⟩ := rs1 x out i (by omega) hl (by omega) so (s := []) (F := n * (x.length + 2) + 1) (fun o' so' p' => rs0 x hl n (i + 1) o' (by omega) so' (by rw [take_snoc9 x i (by omega)]; exact p'.trans (List.Perm.append_right _ p))) out.length 0 (by omega) (fun q hq => absurd hq (by omega))
    refine ⟨s, ?_, ss, sp⟩
    intro f hf
    obtain ⟨f, rfl⟩ : ∃ k', f = k' + 1 := ⟨f - 1, by omega⟩
    rw [Nat.succ_mul] at hf
    rw [remontoirref02_Sort.l0, if_pos (by omega)]
    exact e f (by omega)
theorem RSort_ev (x : List S49) (hl : x.length < 1000) : ∃ s, (∀ k, 1002001 ≤ k → remontoirref02_Sort.f k x = some s) ∧ s.Pairwise Le9 ∧ s.Perm x := by
  obtain ⟨s, e, ss, sp⟩ := rs0 x (by omega) x.length 0 [] (by omega) List.Pairwise.nil (by simp)
  have hm : x.length * (x.length + 2) ≤ 1000 * 1002 := Nat.mul_le_mul (by omega) (by omega)
  exact ⟨s, fun k hk => e k (by omega), ss, sp⟩
theorem same_l : ∀ n (x : List S49) (i : Nat), x.length = i + n → x.length < 100000 → ∀ k, n + 1 ≤ k → remontoirref02_Same.l0 k x x i = some true
  | 0, x, i, hn, hl, k, hk => by
    obtain ⟨k, rfl⟩ : ∃ k', k = k' + 1 := ⟨k - 1, by omega⟩
    rw [remontoirref02_Same.l0, if_neg (by omega)]
  | n + 1, x, i, hn, hl, k, hk => by
    obtain ⟨k, rfl⟩ : ∃ k', k = k' + 1 := ⟨k - 1, by omega⟩
    rw [remontoirref02_Same.l0, if_pos (by omega), if_pos (by omega), if_pos (by omega), if_neg (by simp), w64 (by omega) (by omega)]
    exact same_l n x (i + 1) (by omega) hl k (by omega)
theorem Same_ev (x y : List S49) (e : x = y) (hl : x.length < 100000) (k : Nat) (hk : x.length + 1 ≤ k) : remontoirref02_Same.f k x y = some true := by
  subst e
  unfold remontoirref02_Same.f
  rw [if_pos rfl]; exact same_l x.length x 0 (by omega) hl k hk
theorem cvs_perm {a b : List S34} (h : a.Perm b) : (cvs a).Perm (cvs b) := h.map cv
theorem cvs_sorted {a : List S34} (h : a.Pairwise Le) : (cvs a).Pairwise Le9 := by
  unfold cvs; rw [List.pairwise_map]; exact h
theorem alike_ev (a b : List S34) (p : a.Perm b) (hl : a.length < 1000) (k : Nat) (hk : 1002001 ≤ k) : remontoirlaw02_alike.f k a b = some true := by
  have q := p.length_eq
  obtain ⟨s, es, ss, sp⟩ := RSort_ev (cvs a) (by rw [cvs_len]; omega)
  obtain ⟨t, et, st, tp⟩ := RSort_ev (cvs b) (by rw [cvs_len]; omega)
  have e : s = t := sorted_unique ss st (sp.trans ((cvs_perm p).trans tp.symm))
  have hs := sp.length_eq
  rw [cvs_len] at hs
  unfold remontoirlaw02_alike.f
  rw [as_ev a (by omega) k (by omega), Option.bind_some, es k hk, Option.bind_some, as_ev b (by omega) k (by omega), Option.bind_some, et k hk, Option.bind_some, Same_ev s t e (by omega) k (by omega)]; rfl
end Go.Proofs.Ytdfokaldjfpkhaa.HeapLem
