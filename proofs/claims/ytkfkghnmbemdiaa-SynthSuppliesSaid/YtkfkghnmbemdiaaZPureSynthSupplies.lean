/- The statement SynthSupplies over plain data: true. No condition. -/
import Derived.Test.YtkfkghnmbemdiaaZFSynthLem
import Derived.Test.YtkfkghnmbemdiaaZFSynthx11
import Derived.Test.YtkfkghnmbemdiaaZFSynthLemPat
import Derived.Test.YtkfkghnmbemdiaaZFSynthLemSupp
namespace Go.Proofs.Ytkfkghnmbemdiaa.Pure
open Go.RowKit Go.Proofs.Ytkfkghnmbemdiaa.FSynth Go.Proofs.Ytkfkghnmbemdiaa.SynthArith Go.Proofs.Ytkfkghnmbemdiaa.SynthLem Go.Proofs.Ytkfkghnmbemdiaa.SynthLay Go.Proofs.Ytkfkghnmbemdiaa.SynthSpec Go.Proofs.Ytkfkghnmbemdiaa.SynthEdf Go.Proofs.Ytkfkghnmbemdiaa.SynthPat Go.Proofs.Ytkfkghnmbemdiaa.SupplyMath Go.Proofs.YtkfkghnmbemdiaaW.PrintWords Go.Proofs.YtkfkghnmbemdiaaW.PrintLast Go.Proofs.YtkfkghnmbemdiaaW.PrintMore
set_option linter.unusedSimpArgs false
set_option linter.unusedVariables false
/-- What is given, tick by tick. -/
def gv (G : List Int) (j m : Nat) : List Bool := (List.range m).map (Pt G j)
theorem gv_len (G : List Int) (j m : Nat) : (gv G j m).length = m := by simp [gv]
theorem gv_succ (G : List Int) (j m : Nat) : gv G j (m + 1) = gv G j m ++ [Pt G j m] := by simp [gv, List.range_succ]
theorem fl_gv (G : List Int) (j m i : Nat) (h : i < m) : SynthSupp.fl (gv G j m) i = Pt G j i := by
  unfold SynthSupp.fl
  rw [List.getD_eq_getElem?_getD, List.getElem?_eq_getElem (by rw [gv_len]; exact h)]
  simp [gv]
theorem cnt_gv (G : List Int) (j m n : Nat) (h : n ≤ m) : cnt (SynthSupp.fl (gv G j m)) n = cnt (Pt G j) n := cnt_congr (fun i hi => fl_gv G j m i (by omega))
theorem supplies_j3 (K : Nat) (hK : ∀ k, K ≤ k → remontoirlaw12_knows.f k = some true) (l : List S54) (t : Int) {fr : Nat} {G : List Int} (L : Laid l fr G) {j : Nat} (hj : j < l.length) (k : Nat) (hk : K + 5000 ≤ k) :
    remontoirlaw12_SynthSupplies.j3 k l t (j : Int) (gv G j (3 * G.length)) false = some true := by
  obtain ⟨k, rfl⟩ : ∃ m, k = m + 1 := ⟨k - 1, by omega⟩
  have hm := L.most
  have hG := L.len
  have hR := Rt_of L.rt hj
  have kn : ∀ k, K + 4000 ≤ k → remontoirlaw12_SynthSupplies.j4 k l t (j : Int) (gv G j (3 * G.length)) true = some true := by
    intro k hk
    obtain ⟨k, rfl⟩ : ∃ m, k = m + 1 := ⟨k - 1, by omega⟩
    rw [remontoirlaw12_SynthSupplies.j4, if_pos rfl, hK _ (by omega)]; rfl
  rw [remontoirlaw12_SynthSupplies.j3, if_neg (by decide)]
  by_cases h1 : t < 1
  · rw [if_pos h1]; exact kn k (by omega)
  rw [if_neg h1]
  by_cases h2 : t > ((gv G j (3 * G.length)).length : Int)
  · rw [decide_eq_true h2]; exact kn k (by omega)
  rw [decide_eq_false h2]
  rw [gv_len] at h2
  obtain ⟨k, rfl⟩ : ∃ m, k = m + 1 := ⟨k - 1, by omega⟩
  obtain ⟨n, rfl⟩ : ∃ n : Nat, t = n := ⟨t.toNat, by omega⟩
  have hl := SynthSupp.least_ev (gv G j (3 * G.length)) (by rw [gv_len]; omega) n k (by rw [gv_len]; omega)
  rw [if_pos ⟨by omega, by rw [gv_len]; omega⟩] at hl
  obtain ⟨r, hr, ⟨_, a, ha, hW⟩⟩ := hl
  rw [gv_len, Int.toNat_natCast] at ha
  have hb : remontoirref09_Bound.f k ((rd_T54 l (j : Int)).f0) ((rd_T54 l (j : Int)).f1) (n : Int) = some (SB (Pe l j) (Bu l j) n) := SynthSupp.rbound_ev (Pe l j) (Bu l j) n hR (by omega) (by omega) k (by omega)
  rw [remontoirlaw12_SynthSupplies.j4, if_neg (by decide), hr, Option.bind_some, if_pos (by omega), if_pos (by omega), hb, Option.bind_some, if_pos, hK _ (by omega)]
  · rfl
  · rw [hW, SynthSupp.W, Int.toNat_natCast, cnt_gv _ _ _ _ (by omega), cnt_gv _ _ _ _ (by omega)]
    exact pt_window L hj a n
open Classical in
theorem supplies_end (K : Nat) (hK : ∀ k, K ≤ k → remontoirlaw12_knows.f k = some true) (l : List S54) (t : Int) {fr : Nat} {G : List Int} (L : Laid l fr G) {j : Nat} (hj : j < l.length) (k : Nat) (hk : K + 6000 ≤ k) :
    remontoirlaw12_SynthSupplies.l0 k l t G (j : Int) (gv G j (3 * G.length)) 3 = some true := by
  obtain ⟨k, rfl⟩ : ∃ m, k = m + 1 := ⟨k - 1, by omega⟩
  have hm := L.most
  have hG := L.len
  have hR := Rt_of L.rt hj
  have hLg : SynthSupp.LgTo (Pe l j) (Bu l j) (gv G j (3 * G.length)) := by
    intro q hq
    rw [gv_len] at hq
    rw [cnt_gv _ _ _ _ hq, cnt_gv _ _ _ _ (by rw [Nat.add_mul] at hq; omega)]
    exact Lg_pt L hj q
  have e1 : remontoirref09_Legal.f k ((rd_T54 l (j : Int)).f0) ((rd_T54 l (j : Int)).f1) (gv G j (3 * G.length)) = some true := by
    have := SynthSupp.rlegal_ev (Pe l j) (Bu l j) (gv G j (3 * G.length)) (by rw [gv_len]; omega) k (by rw [gv_len]; omega)
    rw [decide_eq_true (⟨hR, hLg⟩ : Rt (Pe l j) (Bu l j) ∧ SynthSupp.LgTo (Pe l j) (Bu l j) (gv G j (3 * G.length)))] at this
    exact this
  have e2 : supply_Legal.f k ((rd_T54 l (j : Int)).f0) ((rd_T54 l (j : Int)).f1) (gv G j (3 * G.length)) = some true := by
    have := SynthSupp.legal_ev (Pe l j) (Bu l j) (gv G j (3 * G.length)) (by rw [gv_len]; omega) k (by rw [gv_len]; omega)
    rw [decide_eq_true (⟨hR, hLg⟩ : Rt (Pe l j) (Bu l j) ∧ SynthSupp.LgTo (Pe l j) (Bu l j) (gv G j (3 * G.length)))] at this
    exact this
  rw [remontoirlaw12_SynthSupplies.l0, if_neg (by omega), if_pos (by omega), if_pos (by omega), e1, Option.bind_some, if_pos rfl, e2, Option.bind_some]
  exact supplies_j3 K hK l t L hj k (by omega)
theorem supplies_l1 (l : List S54) (t : Int) (G : List Int) (hG : G.length ≤ 240) (hG0 : 1 ≤ G.length) (j n : Nat) (hn : n < 3) {F : Nat} (H : ∀ k, F ≤ k → remontoirlaw12_SynthSupplies.l0 k l t G (j : Int) (gv G j ((n + 1) * G.length)) ((n + 1 : Nat) : Int) = some true) : ∀ d (x : Nat), G.length = x + d → ∀ k, F + d + 1 ≤ k →
    remontoirlaw12_SynthSupplies.l1 k l t G (j : Int) (gv G j (n * G.length + x)) (n : Int) (x : Int) = some true
  | 0, x, hx, k, hk => by
    obtain ⟨k, rfl⟩ : ∃ m, k = m + 1 := ⟨k - 1, by omega⟩
    rw [remontoirlaw12_SynthSupplies.l1, if_neg (by omega), w64 (by omega) (by omega), show n * G.length + x = (n + 1) * G.length by rw [Nat.add_mul, Nat.one_mul]; omega]
    exact H k (by omega)
  | d + 1, x, hx, k, hk => by
    obtain ⟨k, rfl⟩ : ∃ m, k = m + 1 := ⟨k - 1, by omega⟩
    have hb : n * G.length ≤ 2 * 240 := Nat.mul_le_mul (by omega) hG
    rw [remontoirlaw12_SynthSupplies.l1, if_pos (by omega), if_pos (by omega), if_pos (by rw [gv_len]; omega), w64 (by omega) (by omega)]
    have ih := supplies_l1 l t G hG hG0 j n hn H d (x + 1) (by omega) k (by omega)
    rw [show n * G.length + (x + 1) = n * G.length + x + 1 by omega, gv_succ] at ih
    have e : Pt G j (n * G.length + x) = (rd G (x : Int) == (j : Int)) := by
      unfold Pt
      rw [Nat.mul_comm n, Nat.mul_add_mod, Nat.mod_eq_of_lt (by omega)]
    rw [e] at ih
    exact ih
theorem supplies_l0 (K : Nat) (hK : ∀ k, K ≤ k → remontoirlaw12_knows.f k = some true) (l : List S54) (t : Int) {fr : Nat} {G : List Int} (L : Laid l fr G) {j : Nat} (hj : j < l.length) : ∀ d n, n + d = 3 → ∀ k, K + 6000 + 300 * d ≤ k →
    remontoirlaw12_SynthSupplies.l0 k l t G (j : Int) (gv G j (n * G.length)) (n : Int) = some true
  | 0, n, hn, k, hk => by
    obtain rfl : n = 3 := by omega
    exact supplies_end K hK l t L hj k (by omega)
  | d + 1, n, hn, k, hk => by
    obtain ⟨k, rfl⟩ : ∃ m, k = m + 1 := ⟨k - 1, by omega⟩
    have hm := L.most
    have hp := L.pos
    have hG := L.len
    rw [remontoirlaw12_SynthSupplies.l0, if_pos (by omega)]
    exact supplies_l1 l t G (by omega) (by omega) j n (by omega) (F := K + 6000 + 300 * d) (fun k hk => supplies_l0 K hK l t L hj d (n + 1) (by omega) k hk) G.length 0 (by omega) k (by omega)
set_option maxRecDepth 100000 in
theorem SynthSupplies : remontoirlaw12_SynthSupplies.Pure := by
  intro l a t hl ha ht
  obtain ⟨K, hK⟩ := knows_ev
  have ha' : 0 ≤ a ∧ a ≤ 255 := (show IntKind.u8.min ≤ a ∧ a ≤ IntKind.u8.max by simpa [Lit.wf] using ha)
  obtain ⟨k, hk⟩ : ∃ k, k = K + 300000 := ⟨_, rfl⟩
  have k1 : K + 300000 ≤ k := by omega
  clear hk
  refine ⟨k + 1, ?_⟩
  have kn : remontoirlaw12_SynthSupplies.j0 (k + 1) l a t true = some true := by
    rw [remontoirlaw12_SynthSupplies.j0, if_pos rfl, hK _ (by omega)]; rfl
  unfold remontoirlaw12_SynthSupplies.f
  by_cases hg : l.length > 20
  · rw [if_pos (by omega)]; exact kn
  rw [if_neg (by omega)]
  by_cases hz : l.length = 0
  · rw [show ((l.length : Int) == 0) = true by simp [hz]]; exact kn
  rw [show ((l.length : Int) == 0) = false from by rw [beq_eq_false_iff_ne]; omega, remontoirlaw12_SynthSupplies.j0, if_neg (by decide)]
  have fin : ∀ e : Int, e ≠ 0 → synth_Lay.f k l = some ([], e) → ((synth_Lay.f k l).bind fun bt237 => (if bt237.2 = 0 then (if (l.length : Int) = 0 then (none) else (remontoirlaw12_SynthSupplies.l0 k l t bt237.1 (Int.tmod (wrap64 (a)) (l.length : Int)) ([] : List Bool) 0)) else (if (bt237.1.length : Int) = 0 then ((remontoirlaw12_knows.f k).bind fun t241 => (some t241)) else (some false)))) = some true := by
    intro e he h
    rw [h, Option.bind_some, if_neg he, if_pos (by simp), hK _ (by omega)]; rfl
  rcases Lay_ev l with ⟨fr, G, L, h⟩ | ⟨fr, e, G, L, h⟩ | ⟨e, he, h⟩
  · rw [(h k (by omega)).1, Option.bind_some, if_pos rfl, if_neg (by omega)]
    dsimp only
    obtain ⟨j, hj, ej⟩ : ∃ j : Nat, j < l.length ∧ Int.tmod (wrap64 a) (l.length : Int) = (j : Int) := by
      rw [w64 (by omega) (by omega), Int.tmod_eq_emod_of_nonneg (by omega)]
      have h1 := Int.emod_nonneg a (show (l.length : Int) ≠ 0 by omega)
      have h2 := Int.emod_lt_of_pos a (show (0 : Int) < l.length by omega)
      exact ⟨(a % (l.length : Int)).toNat, by omega, by omega⟩
    rw [ej]
    have := supplies_l0 K hK l t L hj 3 0 rfl k (by omega)
    rw [Nat.zero_mul] at this
    exact this
  · exact fin 7 (by omega) (h k (by omega)).1
  · exact fin e (by omega) (h k (by omega)).1
end Go.Proofs.Ytkfkghnmbemdiaa.Pure
