/- The statement SupplyLeast: no pattern gives less than the bound, in as many ticks one behind the other, of its whole periods. No condition. -/
import Derived.Test.YtbjoidhgcdcbgaaFSupplyLem
namespace Go.Proofs.Ytbjoidhgcdcbgaa.Pure
open Go.RowKit Go.Proofs.Ytbjoidhgcdcbgaa.FSupply Go.Proofs.YtbjoidhgcdcbgaaW.PrintWords Go.Proofs.YtbjoidhgcdcbgaaW.PrintLast Go.Proofs.Ytbjoidhgcdcbgaa.SupplyMath Go.Proofs.Ytbjoidhgcdcbgaa.SupplyLem
set_option linter.unusedSimpArgs false
set_option linter.unusedVariables false

/-- A row's ticks, and all behind it. -/
def ext (l : List Bool) (i : Nat) : Bool := l.getD i true
theorem ext_fl (l : List Bool) (x : Nat) (hx : x ≤ l.length) : cnt (ext l) x = cnt (fl l) x := by
  apply cnt_congr
  intro i hi
  unfold ext fl
  rw [List.getD_eq_getElem?_getD, List.getD_eq_getElem?_getD, List.getElem?_eq_getElem (by omega)]
  rfl
theorem ext_far (l : List Bool) (a d : Nat) (ha : l.length ≤ a) : cnt (ext l) (a + d) = cnt (ext l) a + d := by
  induction d with
  | zero => simp
  | succ d ih =>
    rw [← Nat.add_assoc, cnt_succ, ih]
    have : ext l (a + d) = true := by
      unfold ext
      rw [List.getD_eq_getElem?_getD, List.getElem?_eq_none (by omega)]
      rfl
    rw [if_pos this]
    omega
theorem lg_of {P B : Int} (h : Rt P B) (l : List Bool) (n : Nat) (hn : l.length = n * P.toNat) (hL : LgTo P B l) : Lg P B (ext l) := by
  unfold Rt at h
  intro j
  by_cases hj : (j + 1) * P.toNat ≤ l.length
  · have h1 : j * P.toNat ≤ (j + 1) * P.toNat := Nat.mul_le_mul_right _ (by omega)
    rw [ext_fl l _ hj, ext_fl l _ (by omega)]
    exact hL j hj
  · have hjn : n ≤ j := by
      apply Classical.byContradiction
      intro hc
      apply hj
      rw [hn]
      exact Nat.mul_le_mul_right _ (by omega)
    have h1 : n * P.toNat ≤ j * P.toNat := Nat.mul_le_mul_right _ hjn
    rw [Nat.add_mul, Nat.one_mul, ext_far l _ _ (by omega)]
    omega
theorem fl_take (l : List Bool) (m x : Nat) (hx : x ≤ m) : cnt (fl (l.take m)) x = cnt (fl l) x := by
  apply cnt_congr
  intro i hi
  unfold fl
  rw [List.getD_eq_getElem?_getD, List.getD_eq_getElem?_getD, List.getElem?_take_of_lt (by omega)]
theorem SupplyLeast : remontoirlaw09_SupplyLeast.Pure := by
  intro P B l t _ _ gl wt
  have ht := wf64 wt
  obtain ⟨K, hK⟩ := knows_ev
  refine ⟨K + 3000, ?_⟩
  unfold remontoirlaw09_SupplyLeast.f
  have hfar : remontoirlaw09_SupplyLeast.j0 (K + 3000) l t true P B = some true := by
    rw [remontoirlaw09_SupplyLeast.j0, if_pos rfl, hK _ (by omega)]; rfl
  by_cases hl : (l.length : Int) > 600
  · rw [if_pos hl]; exact hfar
  · rw [if_neg hl, rlegal_ev P B l (by omega) _ (by omega), Option.bind_some]
    by_cases h : Rt P B ∧ LgTo P B l
    · rw [if_pos (by simpa using h)]
      by_cases h1 : t < 1
      · rw [decide_eq_true h1]; exact hfar
      · rw [decide_eq_false h1, remontoirlaw09_SupplyLeast.j0, if_neg (by simp)]
        obtain ⟨hr, hL⟩ := h
        have h' := hr
        unfold Rt at h'
        obtain ⟨p, rfl⟩ : ∃ p : Nat, P = p := ⟨P.toNat, by omega⟩
        have ed : (l.length : Int) / (p : Int) = ((l.length / p : Nat) : Int) := (Int.natCast_ediv _ _).symm
        have hdm := Nat.div_add_mod l.length p
        have hdl : l.length / p * p ≤ l.length := by rw [Nat.mul_comm]; omega
        have hdle := Nat.div_le_self l.length p
        have hd0 := Int.natCast_nonneg (l.length / p)
        have em : ((l.length / p : Nat) : Int) * p = ((l.length / p * p : Nat) : Int) := by simp
        rw [if_neg (by omega), ed, w64 (n := ((l.length / p : Nat) : Int)) (by omega) (by omega), em, w64 (n := ((l.length / p * p : Nat) : Int)) (by omega) (by omega), if_pos (by omega), if_pos (by omega), Int.toNat_natCast]
        generalize hm : l.length / p * p = m at *
        have hwl : (l.take m).length = m := by rw [List.length_take]; omega
        have hknow : (remontoirlaw09_knows.f (K + 2999)).bind (fun t => some t) = some true := by rw [hK _ (by omega)]; rfl
        have hle := least_ev (l.take m) (by omega) t (K + 2999) (by omega)
        rw [hwl] at hle ⊢
        by_cases hgt : t > (m : Int)
        · rw [if_pos hgt]
          rw [if_neg (by omega)] at hle
          rw [hle, Option.bind_some, if_pos rfl, hknow]
        · rw [if_neg hgt]
          rw [if_pos ⟨by omega, by omega⟩] at hle
          obtain ⟨r, hrr, hmin⟩ := hle
          rw [bound_ev _ _ _ _ (by omega), if_pos ⟨hr, by omega, by omega⟩, Option.bind_some, if_pos rfl, hrr, Option.bind_some, if_pos, hknow]
          obtain ⟨_, a, ha, rfl⟩ := hmin
          have hLw : LgTo (p : Int) B (l.take m) := by
            intro j hj
            rw [hwl] at hj
            have h2 : j * p ≤ (j + 1) * p := Nat.mul_le_mul_right _ (by omega)
            simp only [Int.toNat_natCast] at hj ⊢
            rw [fl_take l m _ hj, fl_take l m _ (by omega)]
            exact hL j (by simp only [Int.toNat_natCast]; omega)
          have hLg := lg_of hr (l.take m) (l.length / p) (by rw [hwl, Int.toNat_natCast]; exact hm.symm) hLw
          have hwin := window hr hLg a t.toNat
          rw [ext_fl _ _ (by omega), ext_fl _ _ (by omega)] at hwin
          unfold W
          rw [show ((t.toNat : Nat) : Int) = t by omega] at hwin
          exact hwin
    · rw [if_neg (by simpa using h)]; exact hfar

end Go.Proofs.Ytbjoidhgcdcbgaa.Pure
