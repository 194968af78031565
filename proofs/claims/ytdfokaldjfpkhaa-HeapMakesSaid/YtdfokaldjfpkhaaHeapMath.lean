/- Heaps over rows of any kind of items: an item sifted up, and one sifted down. Plain lemmas. No condition. -/
namespace Go.Proofs.Ytdfokaldjfpkhaa.HeapMath
set_option linter.unusedSectionVars false
section
variable {α : Type} [DecidableEq α]

def ap (d : α) (h : List α) (j : Nat) : α := h.getD j d
theorem ap_set (d : α) (h : List α) (i j : Nat) (x : α) (hi : i < h.length) : ap d (h.set i x) j = if i = j then x else ap d h j := by
  unfold ap
  rw [List.getD_eq_getElem?_getD, List.getD_eq_getElem?_getD, List.getElem?_set]
  by_cases e : i = j
  · subst e; rw [if_pos rfl, if_pos hi, if_pos rfl]; rfl
  · rw [if_neg e, if_neg e]
theorem ap_get (d : α) (h : List α) (j : Nat) (hj : j < h.length) : ap d h j = h[j] := by
  unfold ap; rw [List.getD_eq_getElem?_getD, List.getElem?_eq_getElem hj]; rfl
def swap (d : α) (h : List α) (i k : Nat) : List α := (h.set i (ap d h k)).set k (ap d h i)
theorem swap_len (d : α) (h : List α) (i k : Nat) : (swap d h i k).length = h.length := by simp [swap]
theorem ap_swap (d : α) (h : List α) (i k j : Nat) (hi : i < h.length) (hk : k < h.length) : ap d (swap d h i k) j = if k = j then ap d h i else if i = j then ap d h k else ap d h j := by
  unfold swap
  rw [ap_set _ _ _ _ _ (by simpa using hk), ap_set _ _ _ _ _ hi]
theorem swap_perm (d : α) (h : List α) (i k : Nat) (hi : i < h.length) (hk : k < h.length) : (swap d h i k).Perm h := by
  rw [List.perm_iff_count]
  intro a
  unfold swap
  by_cases e : i = k
  · subst e
    rw [List.set_set, ap_get d h i hi, List.set_getElem_self]
  · rw [List.count_set (by simpa using hk), List.count_set hi, List.getElem_set_ne e]
    rw [ap_get d h i hi, ap_get d h k hk]
    have h1 : h[i] = a → 1 ≤ List.count a h := fun hh => List.count_pos_iff.2 (hh ▸ List.getElem_mem hi)
    have h2 : h[k] = a → 1 ≤ List.count a h := fun hh => List.count_pos_iff.2 (hh ▸ List.getElem_mem hk)
    by_cases c1 : h[i] = a
    · have := h1 c1
      by_cases c2 : h[k] = a
      · simp [c1, c2]; omega
      · simp [c1, c2]; omega
    · by_cases c2 : h[k] = a
      · simp [c1, c2]
      · simp [c1, c2]

variable (le : α → α → Prop) (d : α)
def OK (h : List α) : Prop := ∀ j, 0 < j → j < h.length → le (ap d h ((j - 1) / 2)) (ap d h j)
def UpInv (h : List α) (i : Nat) : Prop := i < h.length ∧ (∀ j, 0 < j → j < h.length → j ≠ i → le (ap d h ((j - 1) / 2)) (ap d h j)) ∧
  (0 < i → ∀ j, 0 < j → j < h.length → (j - 1) / 2 = i → le (ap d h ((i - 1) / 2)) (ap d h j))
def DownInv (h : List α) (i : Nat) : Prop := (∀ j, 0 < j → j < h.length → (j - 1) / 2 ≠ i → le (ap d h ((j - 1) / 2)) (ap d h j)) ∧
  (0 < i → ∀ j, 0 < j → j < h.length → (j - 1) / 2 = i → le (ap d h ((i - 1) / 2)) (ap d h j))
variable {le} {d}
theorem up_done {h : List α} {i : Nat} (u : UpInv le d h i) (k : i = 0 ∨ le (ap d h ((i - 1) / 2)) (ap d h i)) : OK le d h := by
  intro j h0 h1
  by_cases e : j = i
  · subst e; rcases k with k | k
    · omega
    · exact k
  · exact u.2.1 j h0 h1 e
theorem up_step (tr : ∀ {a b c}, le a b → le b c → le a c) {h : List α} {i : Nat} (u : UpInv le d h i) (hi : 0 < i) (k : le (ap d h i) (ap d h ((i - 1) / 2))) : UpInv le d (swap d h i ((i - 1) / 2)) ((i - 1) / 2) := by
  obtain ⟨u0, u1, u2⟩ := u
  have hp : (i - 1) / 2 < h.length := by omega
  refine ⟨by rw [swap_len]; exact hp, ?_, ?_⟩
  · intro j j0 j1 j2
    rw [swap_len] at j1
    rw [ap_swap _ _ _ _ _ u0 hp, ap_swap _ _ _ _ _ u0 hp, if_neg (Ne.symm j2)]
    by_cases e : i = j
    · subst e; rw [if_pos rfl, if_pos rfl]; exact k
    · rw [if_neg e]
      by_cases e2 : (i - 1) / 2 = (j - 1) / 2
      · rw [if_pos e2]
        have := u1 j j0 j1 (Ne.symm e)
        rw [← e2] at this
        exact tr k this
      · rw [if_neg e2]
        by_cases e3 : i = (j - 1) / 2
        · rw [if_pos e3]; exact u2 hi j j0 j1 e3.symm
        · rw [if_neg e3]; exact u1 j j0 j1 (Ne.symm e)
  · intro p0 j j0 j1 j2
    rw [swap_len] at j1
    have q1 := u1 _ p0 hp (by omega)
    rw [ap_swap _ _ _ _ _ u0 hp, ap_swap _ _ _ _ _ u0 hp, if_neg (by omega), if_neg (by omega), if_neg (by omega)]
    by_cases e : i = j
    · subst e; rw [if_pos rfl]; exact q1
    · rw [if_neg e]
      have := u1 j j0 j1 (Ne.symm e)
      rw [j2] at this
      exact tr q1 this
theorem down_done {h : List α} {i : Nat} (u : DownInv le d h i) (k : ∀ j, 0 < j → j < h.length → (j - 1) / 2 = i → le (ap d h i) (ap d h j)) : OK le d h := by
  intro j h0 h1
  by_cases e : (j - 1) / 2 = i
  · rw [e]; exact k j h0 h1 e
  · exact u.1 j h0 h1 e
theorem down_step {h : List α} {i k : Nat} (u : DownInv le d h i) (hk : k < h.length) (k0 : 0 < k) (kp : (k - 1) / 2 = i) (kl : ∀ j, 0 < j → j < h.length → (j - 1) / 2 = i → le (ap d h k) (ap d h j)) (ki : le (ap d h k) (ap d h i)) : DownInv le d (swap d h i k) k := by
  obtain ⟨u1, u2⟩ := u
  have hi : i < h.length := by omega
  refine ⟨?_, ?_⟩
  · intro j j0 j1 j2
    rw [swap_len] at j1
    rw [ap_swap _ _ _ _ _ hi hk, ap_swap _ _ _ _ _ hi hk, if_neg (Ne.symm j2)]
    by_cases e : k = j
    · subst e; rw [if_pos rfl, if_pos kp.symm]; exact ki
    · rw [if_neg e]
      by_cases e2 : i = j
      · subst e2; rw [if_pos rfl, if_neg (by omega)]; exact u2 j0 k k0 hk kp
      · rw [if_neg e2]
        by_cases e3 : i = (j - 1) / 2
        · rw [if_pos e3]; exact kl j j0 j1 e3.symm
        · rw [if_neg e3]; exact u1 j j0 j1 (Ne.symm e3)
  · intro _ j j0 j1 j2
    rw [swap_len] at j1
    rw [ap_swap _ _ _ _ _ hi hk, ap_swap _ _ _ _ _ hi hk, if_neg (by omega), if_pos kp.symm, if_neg (by omega), if_neg (by omega)]
    have := u1 j j0 j1 (by omega)
    rw [j2] at this; exact this
theorem head_le (rf : ∀ a, le a a) (tr : ∀ {a b c}, le a b → le b c → le a c) {h : List α} (k : OK le d h) : ∀ n j, j ≤ n → j < h.length → le (ap d h 0) (ap d h j)
  | 0, j, h1, h2 => by have : j = 0 := by omega
                       subst this; exact rf _
  | n + 1, j, h1, h2 => by
    by_cases e : j = 0
    · subst e; exact rf _
    · exact tr (head_le rf tr k n ((j - 1) / 2) (by omega) (by omega)) (k j (by omega) h2)
theorem pop_inv (x : α) {h : List α} (k : OK le d h) (m : Nat) (hm : m ≤ h.length) : DownInv le d ((h.set 0 x).take m) 0 := by
  have e : ∀ j, 0 < j → j < m → ap d ((h.set 0 x).take m) j = ap d h j := by
    intro j j0 j1
    unfold ap
    rw [List.getD_eq_getElem?_getD, List.getD_eq_getElem?_getD, List.getElem?_take, if_pos j1, List.getElem?_set, if_neg (by omega)]
  refine ⟨?_, fun h0 => absurd h0 (by omega)⟩
  intro j j0 j1 j2
  simp at j1
  rw [e j j0 (by omega), e _ (by omega) (by omega)]
  exact k j j0 (by omega)
theorem push_inv (x : α) {h : List α} (k : OK le d h) : UpInv le d (h ++ [x]) h.length := by
  have e : ∀ j, j < h.length → ap d (h ++ [x]) j = ap d h j := by
    intro j j1; unfold ap; rw [List.getD_eq_getElem?_getD, List.getD_eq_getElem?_getD, List.getElem?_append_left j1]
  refine ⟨by simp, ?_, ?_⟩
  · intro j j0 j1 j2
    simp at j1
    rw [e _ (by omega), e _ (by omega)]; exact k j j0 (by omega)
  · intro h0 j j0 j1 j2
    simp at j1; omega
end
end Go.Proofs.Ytdfokaldjfpkhaa.HeapMath
