/- The plain mathematics of supply patterns: counts, the bound, and that no pattern gives less. No program here. No condition. -/
namespace Go.Proofs.Ytkfkghnmbemdiaa.SupplyMath
set_option linter.unusedSimpArgs false
set_option linter.unusedVariables false

/-- How many of the first n ticks are given. -/
def cnt (f : Nat → Bool) : Nat → Int
  | 0 => 0
  | n + 1 => cnt f n + if f n = true then 1 else 0
theorem cnt_succ (f : Nat → Bool) (n : Nat) : cnt f (n + 1) = cnt f n + if f n = true then 1 else 0 := rfl
theorem cnt_step (f : Nat → Bool) (a d : Nat) : 0 ≤ cnt f (a + d) - cnt f a ∧ cnt f (a + d) - cnt f a ≤ d := by
  induction d with
  | zero => simp
  | succ d ih =>
    have : cnt f (a + (d + 1)) = cnt f (a + d) + if f (a + d) = true then 1 else 0 := rfl
    rw [this]
    split <;> omega
theorem cnt_between (f : Nat → Bool) {a b : Nat} (h : a ≤ b) : 0 ≤ cnt f b - cnt f a ∧ cnt f b - cnt f a ≤ (b : Int) - a := by
  have := cnt_step f a (b - a)
  rw [show a + (b - a) = b by omega] at this
  omega
theorem cnt_congr {f g : Nat → Bool} {n : Nat} (h : ∀ i, i < n → f i = g i) : cnt f n = cnt g n := by
  induction n with
  | zero => rfl
  | succ n ih => rw [cnt_succ, cnt_succ, ih (fun i hi => h i (by omega)), h n (by omega)]
theorem cnt_shift (f : Nat → Bool) (a n : Nat) : cnt (fun i => f (a + i)) n = cnt f (a + n) - cnt f a := by
  induction n with
  | zero => simp [cnt]
  | succ n ih => rw [cnt_succ, ih, ← Nat.add_assoc, cnt_succ]; omega

/-- May an interface be? -/
def Rt (P B : Int) : Prop := 1 ≤ B ∧ B ≤ P ∧ P ≤ 200
instance (P B : Int) : Decidable (Rt P B) := by unfold Rt; infer_instance
/-- The bound, from where it may first rise on. -/
def V (P B s : Int) : Int := s / P * B + (if s % P - (P - B) < 0 then 0 else s % P - (P - B))
/-- The bound. -/
def SB (P B t : Int) : Int := if t < P - B then 0 else V P B (t - (P - B))
/-- The worst pattern. -/
def Worst (P B tick : Int) : Bool := if tick < P then decide (tick < B) else decide (tick % P ≥ P - B)

theorem divmod_succ {P s : Int} (hP : 0 < P) : (s % P + 1 < P ∧ (s + 1) / P = s / P ∧ (s + 1) % P = s % P + 1) ∨ (s % P + 1 = P ∧ (s + 1) / P = s / P + 1 ∧ (s + 1) % P = 0) := by
  have h1 := Int.mul_ediv_add_emod s P
  have h2 := Int.emod_nonneg s (show P ≠ 0 by omega)
  have h3 := Int.emod_lt_of_pos s hP
  by_cases h : s % P + 1 < P
  · left
    have := (Int.ediv_emod_unique (a := s + 1) (r := s % P + 1) (q := s / P) hP).2 ⟨by omega, by omega, h⟩
    exact ⟨h, this.1, this.2⟩
  · right
    have := (Int.ediv_emod_unique (a := s + 1) (r := 0) (q := s / P + 1) hP).2 ⟨by rw [Int.mul_add]; omega, by omega, hP⟩
    exact ⟨by omega, this.1, this.2⟩
theorem V_succ {P B s : Int} (h : Rt P B) : V P B (s + 1) = V P B s + if s % P ≥ P - B then 1 else 0 := by
  unfold Rt at h
  have h2 := Int.emod_nonneg s (show P ≠ 0 by omega)
  unfold V
  rcases divmod_succ (P := P) (s := s) (by omega) with ⟨h3, h4, h5⟩ | ⟨h3, h4, h5⟩
  · rw [h4, h5]
    split <;> split <;> split <;> omega
  · rw [h4, h5, Int.add_mul]
    split <;> split <;> split <;> omega
theorem V_zero {P B : Int} (h : Rt P B) : V P B 0 = 0 := by
  unfold V Rt at *
  simp
  omega
theorem SB_succ {P B t : Int} (h : Rt P B) (ht : 0 ≤ t) : SB P B (t + 1) = SB P B t + if Worst P B (B + t) = true then 1 else 0 := by
  have h' := h
  unfold Rt at h'
  unfold SB Worst
  by_cases h1 : t < P - B
  · rw [if_pos h1, if_pos (show B + t < P by omega)]
    by_cases h2 : t + 1 < P - B
    · rw [if_pos h2]; simp; omega
    · rw [if_neg h2, show t + 1 - (P - B) = 0 by omega, V_zero h]; simp; omega
  · rw [if_neg h1, if_neg (show ¬ B + t < P by omega), if_neg (show ¬ t + 1 < P - B by omega)]
    have e : (B + t) % P = (t - (P - B)) % P := by
      rw [show B + t = (t - (P - B)) + P by omega, Int.add_emod_right]
    rw [show t + 1 - (P - B) = (t - (P - B)) + 1 by omega, V_succ h, e]
    simp
theorem SB_zero {P B : Int} (h : Rt P B) : SB P B 0 = 0 := by
  unfold SB
  split
  · rfl
  · rw [show (0 : Int) - (P - B) = 0 by unfold Rt at h; omega, V_zero h]
/-- The bound is what the worst pattern gives from tick B on. -/
theorem SB_count {P B : Int} (h : Rt P B) (n : Nat) : SB P B n = cnt (fun i => Worst P B (B + i)) n := by
  induction n with
  | zero => exact SB_zero h
  | succ n ih =>
    rw [cnt_succ, ← ih]
    have := SB_succ h (t := (n : Int)) (by omega)
    exact this
theorem SB_range {P B : Int} (h : Rt P B) {t : Int} (ht : 0 ≤ t) : 0 ≤ SB P B t ∧ SB P B t ≤ t := by
  obtain ⟨n, rfl⟩ : ∃ n : Nat, t = n := ⟨t.toNat, by omega⟩
  rw [SB_count h]
  have := cnt_between (fun i => Worst P B (B + i)) (Nat.zero_le n)
  simp [cnt] at this
  omega
theorem SB_next {P B : Int} (h : Rt P B) {t : Int} (ht : 0 ≤ t) : SB P B (t + 1) = SB P B t ∨ SB P B (t + 1) = SB P B t + 1 := by
  rw [SB_succ h ht]
  split
  · exact .inr rfl
  · exact .inl (by omega)
theorem V_period {P B s : Int} (h : Rt P B) : V P B (s + P) = V P B s + B := by
  unfold Rt at h
  unfold V
  rw [Int.add_emod_right, Int.add_ediv_of_dvd_right (Int.dvd_refl P), Int.ediv_self (by omega), Int.add_mul]
  omega
theorem SB_period {P B t : Int} (h : Rt P B) (ht : P - B ≤ t) : SB P B (t + P) = SB P B t + B := by
  have h' := h
  unfold Rt at h'
  unfold SB
  rw [if_neg (by omega), if_neg (by omega), show t + P - (P - B) = (t - (P - B)) + P by omega, V_period h]
theorem SB_all {P : Int} (h : Rt P P) {t : Int} (ht : 0 ≤ t) : SB P P t = t := by
  unfold Rt at h
  unfold SB V
  rw [Int.sub_self, if_neg (by omega)]
  have h1 := Int.mul_ediv_add_emod t P
  have h2 := Int.emod_nonneg t (show P ≠ 0 by omega)
  rw [Int.sub_zero, Int.sub_zero, Int.mul_comm, if_neg (by omega)]
  omega
theorem SB_more {P B t : Int} (h : Rt P B) (h' : Rt P (B + 1)) (ht : 0 ≤ t) : SB P B t ≤ SB P (B + 1) t := by
  by_cases h1 : t < P - B
  · have := (SB_range h' ht).1
    unfold SB at *
    rw [if_pos h1]
    exact this
  · unfold SB
    rw [if_neg h1, if_neg (by omega), show t - (P - (B + 1)) = (t - (P - B)) + 1 by omega]
    generalize hs : t - (P - B) = s
    have hs0 : 0 ≤ s := by omega
    unfold Rt at *
    have h2 := Int.emod_nonneg s (show P ≠ 0 by omega)
    have h5 := Int.ediv_nonneg hs0 (show 0 ≤ P by omega)
    unfold V
    rcases divmod_succ (P := P) (s := s) (by omega) with ⟨h3, h4, h6⟩ | ⟨h3, h4, h6⟩
    · rw [h4, h6, Int.mul_add]
      split <;> split <;> omega
    · rw [h4, h6, Int.add_mul, Int.mul_add]
      split <;> split <;> omega

/-- A pattern gives in each period not less than the budget. -/
def Lg (P B : Int) (f : Nat → Bool) : Prop := ∀ j : Nat, B ≤ cnt f ((j + 1) * P.toNat) - cnt f (j * P.toNat)
theorem periods {P B : Int} {f : Nat → Bool} (hL : Lg P B f) (i m : Nat) : (m : Int) * B ≤ cnt f ((i + m) * P.toNat) - cnt f (i * P.toNat) := by
  induction m with
  | zero => simp
  | succ m ih =>
    have := hL (i + m)
    rw [show i + (m + 1) = i + m + 1 by omega]
    have e : ((m + 1 : Nat) : Int) * B = (m : Int) * B + B := by rw [Int.natCast_add, Int.add_mul]; simp
    omega
/-- No window gives less than the bound. -/
theorem window {P B : Int} (h : Rt P B) {f : Nat → Bool} (hL : Lg P B f) (a n : Nat) : SB P B n ≤ cnt f (a + n) - cnt f a := by
  have h' := h
  unfold Rt at h'
  obtain ⟨p, rfl⟩ : ∃ p : Nat, P = p := ⟨P.toNat, by omega⟩
  have hp : 0 < p := by omega
  have hmono := (cnt_between f (show a ≤ a + n by omega)).1
  unfold SB
  split
  · exact hmono
  · rename_i hge
    have ha := Nat.div_add_mod a p
    have hb := Nat.div_add_mod (a + n) p
    have ra := Nat.mod_lt a hp
    have rb := Nat.mod_lt (a + n) hp
    have hq : a / p ≤ (a + n) / p := Nat.div_le_div_right (by omega)
    generalize hqd : a / p = q at *
    generalize hud : a % p = u at *
    generalize hrd : (a + n) / p = r at *
    generalize hvd : (a + n) % p = v at *
    have hu1 := cnt_between f (show q * p ≤ a by rw [Nat.mul_comm]; omega)
    have hu2 := cnt_between f (show a ≤ (q + 1) * p by rw [Nat.mul_comm, Nat.mul_add]; omega)
    have hv1 := cnt_between f (show r * p ≤ a + n by rw [Nat.mul_comm]; omega)
    have hv2 := cnt_between f (show a + n ≤ (r + 1) * p by rw [Nat.mul_comm, Nat.mul_add]; omega)
    have hLq := hL q
    have hLr := hL r
    simp only [Int.toNat_natCast] at hLq hLr
    have cq : (((q + 1) * p : Nat) : Int) = ((q * p : Nat) : Int) + p := by rw [Nat.add_mul]; simp
    have cr : (((r + 1) * p : Nat) : Int) = ((r * p : Nat) : Int) + p := by rw [Nat.add_mul]; simp
    have ca : (a : Int) = ((q * p : Nat) : Int) + u := by rw [Nat.mul_comm]; omega
    have cb : ((a + n : Nat) : Int) = ((r * p : Nat) : Int) + v := by rw [Nat.mul_comm]; omega
    by_cases hqr : q = r
    · subst hqr
      have hn : (n : Int) < p := by omega
      have e1 : ((n : Int) - (p - B)) / p = 0 := Int.ediv_eq_zero_of_lt (by omega) (by omega)
      have e2 : ((n : Int) - (p - B)) % p = (n : Int) - (p - B) := Int.emod_eq_of_lt (by omega) (by omega)
      unfold V
      rw [e1, e2]
      simp only [Int.zero_mul, Int.zero_add]
      split <;> omega
    · obtain ⟨m, rfl⟩ : ∃ m, r = q + 1 + m := ⟨r - (q + 1), by omega⟩
      have hm := periods hL (q + 1) m
      simp only [Int.toNat_natCast] at hm
      have cm : (((q + 1 + m) * p : Nat) : Int) = (((q + 1) * p : Nat) : Int) + m * p := by rw [Nat.add_mul (q + 1)]; simp
      have hn : (n : Int) = p - u + v + m * p := by omega
      -- what is left of the period in which it begins, and what it has of that in which it ends
      have t1 : B - u ≤ cnt f ((q + 1) * p) - cnt f a := by omega
      have t2 : B - (p - v) ≤ cnt f (a + n) - cnt f ((q + 1 + m) * p) := by omega
      have hV : V p B ((n : Int) - (p - B)) ≤ m * B + (if (p - u : Int) - (p - B) < 0 then 0 else (p - u : Int) - (p - B)) + (if (v : Int) - (p - B) < 0 then 0 else (v : Int) - (p - B)) := by
        have hs : (n : Int) - (p - B) = (p - u + v - (p - B)) + m * p := by omega
        rw [hs]
        unfold V
        rw [Int.add_mul_emod_self_right, Int.add_mul_ediv_right _ _ (by omega)]
        have hlt : (p : Int) - u + v - (p - B) < 2 * p := by omega
        have hgt : -(p : Int) ≤ (p : Int) - u + v - (p - B) := by omega
        generalize hy : (p : Int) - u + v - (p - B) = y at *
        have hcase : (y < 0 ∧ y / p = -1 ∧ y % p = y + p) ∨ (0 ≤ y ∧ y < p ∧ y / p = 0 ∧ y % p = y) ∨ (p ≤ y ∧ y / p = 1 ∧ y % p = y - p) := by
          by_cases c1 : y < 0
          · have := (Int.ediv_emod_unique (a := y) (b := p) (r := y + p) (q := -1) (by omega)).2 ⟨by omega, by omega, by omega⟩
            exact .inl ⟨c1, this.1, this.2⟩
          · by_cases c2 : y < p
            · have := (Int.ediv_emod_unique (a := y) (b := p) (r := y) (q := 0) (by omega)).2 ⟨by omega, by omega, by omega⟩
              exact .inr (.inl ⟨by omega, c2, this.1, this.2⟩)
            · have := (Int.ediv_emod_unique (a := y) (b := p) (r := y - p) (q := 1) (by omega)).2 ⟨by omega, by omega, by omega⟩
              exact .inr (.inr ⟨by omega, this.1, this.2⟩)
        rcases hcase with ⟨c1, c2, c3⟩ | ⟨c0, c1, c2, c3⟩ | ⟨c1, c2, c3⟩
        · rw [c2, c3, Int.add_mul]
          split <;> split <;> split <;> omega
        · rw [c2, c3, Int.add_mul]
          split <;> split <;> split <;> omega
        · rw [c2, c3, Int.add_mul]
          split <;> split <;> split <;> omega
      refine Int.le_trans hV ?_
      split <;> split <;> omega
end Go.Proofs.Ytkfkghnmbemdiaa.SupplyMath
