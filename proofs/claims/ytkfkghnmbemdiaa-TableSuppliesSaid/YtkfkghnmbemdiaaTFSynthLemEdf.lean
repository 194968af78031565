/- Earliest deadline first: where all that is wanted is not more than the frame, no period is late. Plain mathematics of whom each tick is given to. No condition. -/
import Derived.Test.YtkfkghnmbemdiaaTFSynthx0
import Derived.Test.YtkfkghnmbemdiaaTFSynthx2
import Derived.Test.YtkfkghnmbemdiaaTFSynthx3
import Derived.Test.YtkfkghnmbemdiaaTFSynthx4
import Derived.Test.YtkfkghnmbemdiaaTFSynthx5
import Derived.Test.YtkfkghnmbemdiaaTFSynthx6
import Derived.Test.YtkfkghnmbemdiaaTFSynthx7
import Derived.Test.YtkfkghnmbemdiaaTFSynthx8
import Derived.Test.YtkfkghnmbemdiaaTFSynthx9
import Derived.Test.YtkfkghnmbemdiaaTFSynthx10
import Derived.Test.YtkfkghnmbemdiaaTFSynthLemSpec
namespace Go.Proofs.Ytkfkghnmbemdiaa.SynthEdf
open Go.RowKit Go.Proofs.Ytkfkghnmbemdiaa.FSynth Go.Proofs.Ytkfkghnmbemdiaa.SynthArith Go.Proofs.Ytkfkghnmbemdiaa.SynthLem Go.Proofs.Ytkfkghnmbemdiaa.SynthLay Go.Proofs.Ytkfkghnmbemdiaa.SynthSpec Go.Proofs.YtkfkghnmbemdiaaW.PrintWords Go.Proofs.YtkfkghnmbemdiaaW.PrintLast Go.Proofs.YtkfkghnmbemdiaaW.PrintMore
set_option linter.unusedSimpArgs false
set_option linter.unusedVariables false
/-- How many of the ticks a, a+1 .. (n of them) are given to j. -/
def ct (G : List Int) (j a : Nat) : Nat → Int
  | 0 => 0
  | n + 1 => ct G j a n + if rd G ((a + n : Nat) : Int) = (j : Int) then 1 else 0
theorem ct_add (G : List Int) (j a n : Nat) : ∀ m, ct G j a (n + m) = ct G j a n + ct G j (a + n) m
  | 0 => by simp [ct]
  | m + 1 => by rw [← Nat.add_assoc, ct, ct_add G j a n m, ct, Nat.add_assoc]; omega
theorem ct_le (G : List Int) (j a : Nat) : ∀ n, 0 ≤ ct G j a n ∧ ct G j a n ≤ n
  | 0 => by simp [ct]
  | n + 1 => by have := ct_le G j a n; rw [ct]; split <;> omega
theorem ct_cnt (G : List Int) (j : Nat) : ∀ (n a : Nat), a + n ≤ G.length → cntI ((G.drop a).take n) j = ct G j a n
  | 0, a, _ => by simp [ct, cntI]
  | n + 1, a, h => by
    have e : (G.drop a).take (n + 1) = (G.drop a).take n ++ [rd G ((a + n : Nat) : Int)] := by
      rw [List.take_add_one, List.getElem?_drop, List.getElem?_eq_getElem (by omega), rd_get G (a + n) (by omega)]; rfl
    rw [e, cntI_snoc, ct_cnt G j n a (by omega), ct]
theorem ct_zero (G : List Int) (j a : Nat) : ∀ n, (∀ u, u < n → rd G ((a + u : Nat) : Int) ≠ (j : Int)) → ct G j a n = 0
  | 0, _ => rfl
  | n + 1, h => by rw [ct, ct_zero G j a n (fun u hu => h u (by omega)), if_neg (h n (by omega))]; rfl
/-- Each tick is somebody's: the sum of all. -/
def sumC (G : List Int) (a n : Nat) : Nat → Int
  | 0 => 0
  | i + 1 => sumC G a n i + ct G i a n
theorem sumC_succ (G : List Int) (a n : Nat) : ∀ i, sumC G a (n + 1) i = sumC G a n i + if 0 ≤ rd G ((a + n : Nat) : Int) ∧ rd G ((a + n : Nat) : Int) < i then 1 else 0
  | 0 => by rw [if_neg (by omega)]; rfl
  | i + 1 => by
    rw [sumC, sumC_succ G a n i, sumC, ct]
    by_cases c : rd G ((a + n : Nat) : Int) = (i : Int)
    · rw [if_pos c, if_neg (by omega), if_pos (by omega)]; omega
    · rw [if_neg c]
      by_cases c2 : 0 ≤ rd G ((a + n : Nat) : Int) ∧ rd G ((a + n : Nat) : Int) < (i : Int)
      · rw [if_pos c2, if_pos (by omega)]; omega
      · rw [if_neg c2, if_neg (by omega)]; omega
theorem sumC_zero (G : List Int) (a : Nat) : ∀ i, sumC G a 0 i = 0
  | 0 => rfl
  | i + 1 => by rw [sumC, sumC_zero G a i]; rfl
theorem sumC_all (G : List Int) (a i : Nat) : ∀ n, (∀ u, u < n → 0 ≤ rd G ((a + u : Nat) : Int) ∧ rd G ((a + u : Nat) : Int) < i) → sumC G a n i = n
  | 0, _ => sumC_zero G a i
  | n + 1, h => by rw [sumC_succ, sumC_all G a i n (fun u hu => h u (by omega)), if_pos (h n (by omega))]; omega

section
variable {l : List S54} {G : List Int} {e : Nat}
/-- At most the budget in a period's beginning. -/
theorem budget (h : RtAll l) (pk : PK l G) {j : Nat} (hj : j < l.length) (q u : Nat) (hu : u ≤ p l j) (hG : q * p l j + u ≤ G.length) : ct G j (q * p l j) u ≤ Bu l j := by
  have := pk_budget h pk hj q u hu hG
  rw [had_take, Nat.add_sub_cancel_left, ct_cnt G j u _ hG] at this
  exact this
/-- What an interface still wants at a tick. -/
theorem wt_ct (h : RtAll l) {j : Nat} (hj : j < l.length) (t : Nat) (ht : t ≤ G.length) : wt l (G.take t) j t = Bu l j - ct G j (ps l j t) (t - ps l j t) := by
  unfold wt
  have := ps_le l j t
  rw [had_take, ct_cnt G j _ _ (by omega)]
/-- Served ticks of some whole periods. -/
theorem periods_le (h : RtAll l) (pk : PK l G) {j : Nat} (hj : j < l.length) (r : Nat) : ∀ m, (r + m) * p l j ≤ G.length → ct G j (r * p l j) (m * p l j) ≤ m * Bu l j
  | 0, _ => by simp [ct]
  | m + 1, hG => by
    have hh : (r + m + 1) * p l j = (r + m) * p l j + p l j := by rw [Nat.add_mul, Nat.one_mul]
    rw [← Nat.add_assoc] at hG
    rw [hh] at hG
    have ih := periods_le h pk hj r m (by omega)
    have b := budget h pk hj (r + m) (p l j) (Nat.le_refl _) hG
    rw [Nat.add_mul m 1, Nat.one_mul, ct_add, ← Nat.add_mul]
    have e1 : ((m + 1 : Nat) : Int) * Bu l j = (m : Int) * Bu l j + Bu l j := by
      rw [show ((m + 1 : Nat) : Int) = (m : Int) + 1 from rfl, Int.add_mul, Int.one_mul]
    omega
/-- Where all ticks from s on are given to what is due by e, and at s-1 nothing that is due by then was left: what j got is of whole periods between. -/
theorem served (h : RtAll l) (pk : PK l G) (hG : G.length = e) {s : Nat} (hs : s ≤ e) (busy : ∀ t, s ≤ t → t < e → ∃ m, m < l.length ∧ rd G (t : Int) = (m : Int) ∧ dl l m t ≤ e)
    (none : 0 < s → ∀ j, j < l.length → dl l j (s - 1) ≤ e → wt l (G.take (s - 1)) j (s - 1) ≤ 0) {j : Nat} (hj : j < l.length) :
    ∃ m : Nat, m * p l j ≤ e - s ∧ ct G j s (e - s) ≤ m * Bu l j ∧ (p l j ≤ e - s → e % p l j = 0 → ∃ m', m = m' + 1 ∧ ct G j s (e - s) ≤ m' * Bu l j + ct G j (e - p l j) (p l j)) := by
  obtain ⟨_, e1, e2⟩ := p_eq h hj
  obtain ⟨pp, hpp⟩ : ∃ pp, pp = p l j := ⟨_, rfl⟩
  -- r: the first period that begins at s or later; q: the last that ends by e
  obtain ⟨r, hr⟩ : ∃ r, r = (s + pp - 1) / pp := ⟨_, rfl⟩
  obtain ⟨q, hq⟩ : ∃ q, q = e / pp := ⟨_, rfl⟩
  have r1 : s ≤ r * pp := by
    have := Nat.div_add_mod (s + pp - 1) pp
    have h2 := Nat.mod_lt (s + pp - 1) (show 0 < pp by omega)
    rw [← hr, Nat.mul_comm] at this; omega
  have r2 : r * pp < s + pp := by
    have := Nat.div_mul_le_self (s + pp - 1) pp
    rw [← hr] at this; omega
  have q1 : q * pp ≤ e := by rw [hq]; exact Nat.div_mul_le_self _ _
  have q2 : e < q * pp + pp := by
    have := Nat.div_add_mod e pp
    have h2 := Nat.mod_lt e (show 0 < pp by omega)
    rw [← hq, Nat.mul_comm] at this; omega
  -- no tick behind the last whole period
  have tail : ∀ t, s ≤ t → q * pp ≤ t → t < e → rd G (t : Int) ≠ (j : Int) := by
    intro t t0 t1 t2 c
    obtain ⟨m, m1, m2, m3⟩ := busy t t0 t2
    have : m = j := by omega
    subst this
    unfold dl at m3
    rw [← hpp] at m3
    have h1 : q ≤ t / pp := (Nat.le_div_iff_mul_le (by omega)).2 t1
    have h2 := Nat.mul_le_mul_right pp (show q + 1 ≤ t / pp + 1 by omega)
    rw [Nat.add_mul q, Nat.one_mul] at h2
    omega
  -- no tick ahead of the first one
  have head : ∀ t, s ≤ t → t < r * pp → t < e → rd G (t : Int) ≠ (j : Int) := by
    intro t t0 t1 t2 c
    obtain ⟨m, m1, m2, m3⟩ := busy t t0 t2
    have : m = j := by omega
    subst this
    have s0 : 0 < s := by
      rcases Nat.eq_zero_or_pos s with z | z
      · subst z
        have : r = 0 := by rw [hr]; exact Nat.div_eq_of_lt (by omega)
        subst this; omega
      · exact z
    obtain ⟨r', rfl⟩ : ∃ r', r = r' + 1 := ⟨r - 1, by rcases Nat.eq_zero_or_pos r with z | z; (· subst z; omega); (· omega)⟩
    rw [Nat.add_mul, Nat.one_mul] at r1 r2 t1
    have d1 : t / pp = r' := by
      refine Nat.div_eq_of_lt_le (by omega) ?_
      rw [Nat.add_mul, Nat.one_mul]; omega
    have d2 : (s - 1) / pp = r' := by
      refine Nat.div_eq_of_lt_le (by omega) ?_
      rw [Nat.add_mul, Nat.one_mul]; omega
    have w := none s0 m hj (by unfold dl at m3 ⊢; rw [← hpp] at m3 ⊢; rw [d2]; rw [d1] at m3; exact m3)
    rw [wt_ct h hj _ (by omega)] at w
    have hps : ps l m (s - 1) = r' * pp := by unfold ps; rw [← hpp, d2]
    rw [hps] at w
    -- from the period's beginning up to t and t itself: more than the budget
    have b := budget h pk hj r' (t + 1 - r' * pp) (by rw [← hpp]; omega) (by rw [← hpp]; omega)
    rw [← hpp, show t + 1 - r' * pp = (s - 1 - r' * pp) + (t + 1 - (s - 1)) by omega, ct_add, show t + 1 - (s - 1) = (t - (s - 1)) + 1 by omega, ct, show r' * pp + (s - 1 - r' * pp) + (t - (s - 1)) = t by omega, if_pos c] at b
    have := ct_le G m (r' * pp + (s - 1 - r' * pp)) (t - (s - 1))
    omega
  by_cases c : r ≤ q
  · obtain ⟨m, rfl⟩ : ∃ m, q = r + m := ⟨q - r, by omega⟩
    have hm : (r + m) * pp = r * pp + m * pp := Nat.add_mul _ _ _
    rw [hm] at q1 q2
    have z1 : ct G j s (r * pp - s) = 0 := ct_zero G j s _ (fun u hu => head (s + u) (by omega) (by omega) (by omega))
    have z2 : ct G j (r * pp + m * pp) (e - (r * pp + m * pp)) = 0 := ct_zero G j _ _ (fun u hu => tail _ (by omega) (by rw [hm]; omega) (by omega))
    have sp : ct G j s (e - s) = ct G j (r * pp) (m * pp) := by
      rw [show e - s = (r * pp - s) + (m * pp + (e - (r * pp + m * pp))) by omega, ct_add, show s + (r * pp - s) = r * pp by omega, ct_add, z1, z2]; omega
    refine ⟨m, by rw [← hpp]; omega, by rw [sp, hpp]; exact periods_le h pk hj r m (by rw [← hpp, hm]; omega), fun g1 g2 => ?_⟩
    rw [← hpp] at g1 g2
    have g3 : r * pp + m * pp = e := by
      have := Nat.div_add_mod e pp
      rw [g2, ← hq, Nat.mul_comm pp (r + m), hm] at this; omega
    rcases Nat.eq_zero_or_pos m with z | z
    · subst z; omega
    · obtain ⟨m', rfl⟩ : ∃ m', m = m' + 1 := ⟨m - 1, by omega⟩
      refine ⟨m', rfl, ?_⟩
      rw [Nat.add_mul m', Nat.one_mul] at g3 sp
      have b := periods_le h pk hj r m' (by rw [← hpp, Nat.add_mul]; omega)
      rw [sp, ct_add, ← hpp, show e - pp = r * pp + m' * pp by omega]
      rw [← hpp] at b
      omega
  · have z : ct G j s (e - s) = 0 := ct_zero G j s _ (fun u hu => by
      by_cases c2 : s + u < r * pp
      · exact head _ (by omega) c2 (by omega)
      · refine tail _ (by omega) ?_ (by omega)
        have := Nat.mul_le_mul_right pp (show q + 1 ≤ r by omega)
        rw [Nat.add_mul, Nat.one_mul] at this; omega)
    refine ⟨0, by omega, by rw [z]; omega, fun g1 g2 => ?_⟩
    exfalso
    rw [← hpp] at g1 g2
    have := Nat.div_add_mod e pp
    rw [g2, ← hq, Nat.mul_comm] at this
    have h2 := Nat.mul_le_mul_right pp (show q + 1 ≤ r by omega)
    rw [Nat.add_mul, Nat.one_mul] at h2
    omega
/-- The last stretch in which all ticks are given to what is due by e. -/
theorem stretch (P : Nat → Prop) : ∀ n, ∃ s, s ≤ n ∧ (∀ t, s ≤ t → t < n → P t) ∧ (0 < s → ¬ P (s - 1))
  | 0 => ⟨0, Nat.le_refl _, fun t _ h => by omega, fun h => by omega⟩
  | n + 1 => by
    by_cases c : P n
    · obtain ⟨s, s1, s2, s3⟩ := stretch P n
      refine ⟨s, by omega, fun t t0 t1 => ?_, s3⟩
      by_cases e : t = n
      · subst e; exact c
      · exact s2 t t0 (by omega)
    · exact ⟨n + 1, Nat.le_refl _, fun t _ h => by omega, fun _ => by rw [Nat.add_sub_cancel]; exact c⟩
end
/-- Sums over the interfaces. -/
def shN (l : List S54) (fr : Int) : Nat → Int
  | 0 => 0
  | i + 1 => shN l fr i + fr / Pe l i * Bu l i
theorem shN_eq (l : List S54) (fr : Int) : ∀ n i, shN l fr i + shF l fr i n = shN l fr (i + n)
  | 0, i => by simp [shF]
  | n + 1, i => by
    have := shN_eq l fr n (i + 1)
    rw [shF, show i + (n + 1) = i + 1 + n by omega, ← this, shN]; omega
theorem sum_le {l : List S54} (h : RtAll l) {fr d : Nat} (div : allP l l.length fr) (G : List Int) (s n : Nat) (f : ∀ j, j < l.length → ∃ m : Nat, m * p l j ≤ d ∧ ct G j s n ≤ m * Bu l j) : ∀ i, i ≤ l.length → (fr : Int) * sumC G s n i ≤ shN l fr i * d
  | 0, _ => by simp [sumC, shN]
  | i + 1, hi => by
    have ih := sum_le h div G s n f i (by omega)
    obtain ⟨m, m1, m2⟩ := f i (by omega)
    obtain ⟨e, e1, e2⟩ := p_eq h (i := i) (by omega)
    obtain ⟨b1, b2, b3⟩ := h i (by omega)
    obtain ⟨c, hc⟩ := div i (by omega)
    rw [sumC, shN, Int.mul_add, Int.add_mul]
    have hq : (fr : Int) / Pe l i = c := by rw [hc]; exact Int.mul_ediv_cancel_left _ (by omega)
    have c0 : 0 ≤ c := by rw [← hq]; exact Int.ediv_nonneg (by omega) (by omega)
    rw [hq]
    have m1' : Pe l i * (m : Int) ≤ d := by rw [e, Int.mul_comm, ← Int.natCast_mul]; omega
    have s1 : (fr : Int) * ct G i s n ≤ (fr : Int) * ((m : Int) * Bu l i) := Int.mul_le_mul_of_nonneg_left m2 (by omega)
    have s2 : (fr : Int) * ((m : Int) * Bu l i) = c * Bu l i * (Pe l i * (m : Int)) := by rw [hc]; grind
    have s3 : c * Bu l i * (Pe l i * (m : Int)) ≤ c * Bu l i * d := Int.mul_le_mul_of_nonneg_left m1' (Int.mul_nonneg c0 (by omega))
    omega
theorem no_late {l : List S54} {fr e : Nat} {G : List Int} (L : Late l fr e G) (hs : shN l fr l.length ≤ fr) (hfr : 1 ≤ fr) : False := by
  have hb := L.bad
  unfold SynthLay.good at hb
  simp only [Classical.not_forall] at hb
  obtain ⟨i, hi, hm, h0, hlt⟩ := hb
  obtain ⟨ep, e1, e2⟩ := p_eq L.rt hi
  have hle : p l i ≤ e := Nat.le_of_dvd (by omega) (Nat.dvd_of_mod_eq_zero hm)
  have hG := L.len
  have hlt' : ct G i (e - p l i) (p l i) < Bu l i := by
    have : hadN G i (e - p l i) = ct G i (e - p l i) (p l i) := by
      unfold hadN
      rw [← ct_cnt G i _ _ (by omega), List.take_of_length_le (by rw [List.length_drop]; omega)]
    omega
  obtain ⟨s, s1, s2, s3⟩ := stretch (fun t => ∃ m, m < l.length ∧ rd G (t : Int) = (m : Int) ∧ dl l m t ≤ e) e
  -- the late one wants a tick, each one of its period
  obtain ⟨Q, hQ⟩ := Nat.dvd_of_mod_eq_zero hm
  obtain ⟨Q', rfl⟩ : ∃ Q', Q = Q' + 1 := ⟨Q - 1, by rcases Nat.eq_zero_or_pos Q with z | z; (· subst z; omega); (· omega)⟩
  have hQ' : e = Q' * p l i + p l i := by rw [hQ, Nat.mul_add, Nat.mul_one, Nat.mul_comm]
  have want : ∀ t, Q' * p l i ≤ t → t < e → 0 < wt l (G.take t) i t ∧ dl l i t = e := by
    intro t t0 t1
    have d1 : t / p l i = Q' := by
      refine Nat.div_eq_of_lt_le (by omega) ?_
      rw [Nat.add_mul, Nat.one_mul]; omega
    refine ⟨?_, by unfold dl; rw [d1, Nat.add_mul, Nat.one_mul]; omega⟩
    rw [wt_ct L.rt hi t (by omega)]
    have hps : ps l i t = Q' * p l i := by unfold ps; rw [d1]
    rw [hps]
    have := ct_add G i (Q' * p l i) (t - Q' * p l i) (e - t)
    rw [show t - Q' * p l i + (e - t) = p l i by omega, show Q' * p l i = e - p l i by omega] at this
    have h2 := ct_le G i (e - p l i + (t - (e - p l i))) (e - t)
    rw [show Q' * p l i = e - p l i by omega]
    omega
  have srv : ∀ t, t < e → ∀ j, j < l.length → 0 < wt l (G.take t) j t → dl l j t ≤ e → ∃ m, m < l.length ∧ rd G (t : Int) = (m : Int) ∧ dl l m t ≤ e := by
    intro t ht j hj hw hd
    rcases L.pk t (by omega) with ⟨h1, h2⟩ | ⟨m, h1, h2, h3, h4, h5⟩
    · have := h2 j (by omega) hj; dsimp only at this; omega
    · have := h5 j (by omega) hj hw
      dsimp only at this
      exact ⟨m, h3, h1, by omega⟩
  have hsle : s ≤ e - p l i := by
    apply Classical.byContradiction
    intro c
    have hw := want (s - 1) (by omega) (by omega)
    exact s3 (by omega) (srv (s - 1) (by omega) i hi hw.1 (by omega))
  have none : 0 < s → ∀ j, j < l.length → dl l j (s - 1) ≤ e → wt l (G.take (s - 1)) j (s - 1) ≤ 0 := by
    intro h0 j hj hd
    apply Classical.byContradiction
    intro c
    exact s3 h0 (srv (s - 1) (by omega) j hj (by omega) hd)
  have all := sumC_all G s l.length (e - s) (fun u hu => by
    obtain ⟨m, m1, m2, _⟩ := s2 (s + u) (by omega) (by omega)
    rw [m2]; omega)
  -- the late one got less: a row in which one tick more is its
  have key : ∀ j, j < l.length → ∃ m : Nat, m * p l j ≤ e - s ∧ ct G j s (e - s) + (if j = i then 1 else 0) ≤ m * Bu l j := by
    intro j hj
    obtain ⟨m, m1, m2, m3⟩ := served L.rt L.pk hG s1 s2 none hj
    by_cases c : j = i
    · subst c
      obtain ⟨m', rfl, m4⟩ := m3 (by omega) hm
      refine ⟨m' + 1, m1, ?_⟩
      rw [if_pos rfl]
      have : ((m' + 1 : Nat) : Int) * Bu l j = (m' : Int) * Bu l j + Bu l j := by rw [show ((m' + 1 : Nat) : Int) = (m' : Int) + 1 from rfl, Int.add_mul, Int.one_mul]
      omega
    · exact ⟨m, m1, by rw [if_neg c]; omega⟩
  have tot : ∀ n, n ≤ l.length → (fr : Int) * (sumC G s (e - s) n + if i < n then 1 else 0) ≤ shN l fr n * ((e - s : Nat) : Int) := by
    intro n
    induction n with
    | zero => intro _; rw [if_neg (by omega)]; simp [sumC, shN]
    | succ n ih =>
      intro hn
      have ih := ih (by omega)
      obtain ⟨m, m1, m2⟩ := key n (by omega)
      obtain ⟨en, en1, en2⟩ := p_eq L.rt (i := n) (by omega)
      obtain ⟨b1, b2, b3⟩ := L.rt n (by omega)
      obtain ⟨c, hc⟩ := L.div n (by omega)
      have hq : (fr : Int) / Pe l n = c := by rw [hc]; exact Int.mul_ediv_cancel_left _ (by omega)
      have c0 : 0 ≤ c := by rw [← hq]; exact Int.ediv_nonneg (by omega) (by omega)
      have m1' : Pe l n * (m : Int) ≤ ((e - s : Nat) : Int) := by rw [en, Int.mul_comm, ← Int.natCast_mul]; omega
      have q1 : (fr : Int) * (ct G n s (e - s) + if n = i then 1 else 0) ≤ (fr : Int) * ((m : Int) * Bu l n) := Int.mul_le_mul_of_nonneg_left m2 (by omega)
      have q2 : (fr : Int) * ((m : Int) * Bu l n) = c * Bu l n * (Pe l n * (m : Int)) := by rw [hc]; grind
      have q3 : c * Bu l n * (Pe l n * (m : Int)) ≤ c * Bu l n * ((e - s : Nat) : Int) := Int.mul_le_mul_of_nonneg_left m1' (Int.mul_nonneg c0 (by omega))
      have q4 : (if i < n + 1 then (1 : Int) else 0) = (if i < n then 1 else 0) + if n = i then 1 else 0 := by
        by_cases g1 : i < n
        · rw [if_pos g1, if_pos (by omega), if_neg (by omega)]; rfl
        · rw [if_neg g1]
          by_cases g2 : n = i
          · rw [if_pos g2, if_pos (by omega)]; rfl
          · rw [if_neg g2, if_neg (by omega)]; rfl
      rw [q4, sumC, shN, hq, Int.add_mul]
      have q5 : (fr : Int) * (sumC G s (e - s) n + ct G n s (e - s) + ((if i < n then 1 else 0) + if n = i then 1 else 0)) = (fr : Int) * (sumC G s (e - s) n + if i < n then 1 else 0) + (fr : Int) * (ct G n s (e - s) + if n = i then 1 else 0) := by grind
      omega
  have fin := tot l.length (Nat.le_refl _)
  rw [all, if_pos hi] at fin
  have b := Int.mul_le_mul_of_nonneg_right hs (show (0 : Int) ≤ ((e - s : Nat) : Int) by omega)
  rw [Int.mul_add, Int.mul_one] at fin
  omega
end Go.Proofs.Ytkfkghnmbemdiaa.SynthEdf
