/- The statement SynthPeriods over plain data: true. No condition. -/
import Derived.Test.YtkfkghnmbemdiaaFSynthLem
import Derived.Test.YtkfkghnmbemdiaaFSynthx7
import Derived.Test.YtkfkghnmbemdiaaFSynthLemSpec
namespace Go.Proofs.Ytkfkghnmbemdiaa.Pure
open Go.RowKit Go.Proofs.Ytkfkghnmbemdiaa.FSynth Go.Proofs.Ytkfkghnmbemdiaa.SynthArith Go.Proofs.Ytkfkghnmbemdiaa.SynthLem Go.Proofs.Ytkfkghnmbemdiaa.SynthLay Go.Proofs.Ytkfkghnmbemdiaa.SynthSpec Go.Proofs.YtkfkghnmbemdiaaW.PrintWords Go.Proofs.YtkfkghnmbemdiaaW.PrintLast Go.Proofs.YtkfkghnmbemdiaaW.PrintMore
set_option linter.unusedSimpArgs false
set_option linter.unusedVariables false
set_option maxRecDepth 100000 in
theorem periods_l0 (K : Nat) (hK : ∀ k, K ≤ k → remontoirlaw12_knows.f k = some true) (l : List S54) (G : List Int) (hG : G.length ≤ 240) (j : Nat) (hj : j < l.length) (fm : Nat) (hP : (Pe l j) = (p l j : Int)) (hf : fm + p l j ≤ G.length) : ∀ n (x : Nat) (c : Int), x + n = fm + p l j → 0 ≤ c → c ≤ x → c + cntI ((G.drop x).take n) j = Bu l j → ∀ k, K + n + 1 ≤ k → remontoirlaw12_SynthPeriods.l0 k l G j fm c x = some true
  | 0, x, c, hn, c0, c1, hc, k, hk => by
    obtain ⟨k, rfl⟩ : ∃ k', k = k' + 1 := ⟨k - 1, by omega⟩
    rw [List.take_zero, cntI, Int.add_zero] at hc
    rw [remontoirlaw12_SynthPeriods.l0, if_pos (by omega), if_pos (by omega)]
    show (if (x : Int) < wrap64 ((fm : Int) + Pe l j) then _ else (if c = Bu l j then _ else _)) = _
    rw [hP, w64 (by omega) (by omega), if_neg (by omega), if_pos hc, hK _ (by omega)]; rfl
  | n + 1, x, c, hn, c0, c1, hc, k, hk => by
    obtain ⟨k, rfl⟩ : ∃ k', k = k' + 1 := ⟨k - 1, by omega⟩
    rw [drop_cons G x (by omega), List.take_succ_cons, cntI] at hc
    rw [remontoirlaw12_SynthPeriods.l0, if_pos (by omega), if_pos (by omega)]
    show (if (x : Int) < wrap64 ((fm : Int) + Pe l j) then _ else _) = _
    rw [hP, w64 (n := (fm : Int) + _) (by omega) (by omega), if_pos (by omega), if_pos (by omega), if_pos (by omega), w64 (n := c + 1) (by omega) (by omega), w64 (n := (x : Int) + 1) (by omega) (by omega)]
    by_cases e : rd G (x : Int) = (j : Int)
    · rw [if_pos e] at hc ⊢
      exact periods_l0 K hK l G hG j hj fm hP hf n (x + 1) (c + 1) (by omega) (by omega) (by omega) (by omega) k (by omega)
    · rw [if_neg e] at hc ⊢
      exact periods_l0 K hK l G hG j hj fm hP hf n (x + 1) c (by omega) (by omega) (by omega) (by omega) k (by omega)
set_option maxRecDepth 100000 in
theorem SynthPeriods : remontoirlaw12_SynthPeriods.Pure := by
  intro l a b hl ha hb
  obtain ⟨K, hK⟩ := knows_ev
  have ha' : 0 ≤ a ∧ a ≤ 255 := (show IntKind.u8.min ≤ a ∧ a ≤ IntKind.u8.max by simpa [Lit.wf] using ha)
  have hb' : 0 ≤ b ∧ b ≤ 255 := (show IntKind.u8.min ≤ b ∧ b ≤ IntKind.u8.max by simpa [Lit.wf] using hb)
  obtain ⟨k, hk⟩ : ∃ k, k = K + 300000 := ⟨_, rfl⟩
  have k1 : K + 300000 ≤ k := by omega
  clear hk
  refine ⟨k + 1, ?_⟩
  have kn : remontoirlaw12_SynthPeriods.j0 (k + 1) l a b true = some true := by
    rw [remontoirlaw12_SynthPeriods.j0, if_pos rfl, hK _ (by omega)]; rfl
  unfold remontoirlaw12_SynthPeriods.f
  by_cases hg : l.length > 20
  · rw [if_pos (by omega)]; exact kn
  rw [if_neg (by omega)]
  by_cases hz : l.length = 0
  · rw [show ((l.length : Int) == 0) = true by simp [hz]]; exact kn
  rw [show ((l.length : Int) == 0) = false from by rw [beq_eq_false_iff_ne]; omega, remontoirlaw12_SynthPeriods.j0, if_neg (by decide)]
  have fin : ∀ e : Int, e ≠ 0 → synth_Lay.f k l = some ([], e) → ((synth_Lay.f k l).bind fun bt182 => (if bt182.2 = 0 then (if (l.length : Int) = 0 then (none) else (if (bt182.1.length : Int) = 0 then (some false) else (if 0 ≤ (Int.tmod (wrap64 a) (l.length : Int)) then (if (Int.tmod (wrap64 a) (l.length : Int)) < (l.length : Int) then (remontoirlaw12_SynthPeriods.l0 k l bt182.1 (Int.tmod (wrap64 a) (l.length : Int)) (Int.tmod (wrap64 ((wrap64 b) * ((rd_T54 l (Int.tmod (wrap64 a) (l.length : Int))).f0))) (bt182.1.length : Int)) 0 (Int.tmod (wrap64 ((wrap64 b) * ((rd_T54 l (Int.tmod (wrap64 a) (l.length : Int))).f0))) (bt182.1.length : Int))) else (none)) else (none)))) else (if (bt182.1.length : Int) = 0 then ((remontoirlaw12_knows.f k).bind fun t186 => (some t186)) else (some false)))) = some true := by
    intro e he h
    rw [h, Option.bind_some, if_neg he, if_pos (by simp), hK _ (by omega)]; rfl
  rcases Lay_ev l with ⟨fr, G, L, h⟩ | ⟨fr, e, G, L, h⟩ | ⟨e, he, h⟩
  · have hG := L.len
    have hm := L.most
    have hp0 := L.pos
    rw [(h k (by omega)).1, Option.bind_some, if_pos rfl, if_neg (by omega)]
    dsimp only
    obtain ⟨j, hj, ej⟩ : ∃ j : Nat, j < l.length ∧ Int.tmod (wrap64 a) (l.length : Int) = (j : Int) := by
      rw [w64 (by omega) (by omega), Int.tmod_eq_emod_of_nonneg (by omega)]
      have h1 := Int.emod_nonneg a (show (l.length : Int) ≠ 0 by omega)
      have h2 := Int.emod_lt_of_pos a (show (0 : Int) < l.length by omega)
      exact ⟨(a % (l.length : Int)).toNat, by omega, by omega⟩
    obtain ⟨e, e1, e2⟩ := p_eq L.rt hj
    have hdiv := L.div j hj
    rw [e] at hdiv
    obtain ⟨c, hc⟩ := Int.natCast_dvd_natCast.1 hdiv
    obtain ⟨B, rfl⟩ : ∃ B : Nat, b = B := ⟨b.toNat, by omega⟩
    have hBp : B * p l j ≤ 255 * 200 := Nat.mul_le_mul (by omega) e2
    have c0 : 0 < c := by rcases Nat.eq_zero_or_pos c with q | q; (· subst q; omega); (· exact q)
    have hfm : Int.tmod (wrap64 ((wrap64 (B : Int)) * ((rd_T54 l (j : Int)).f0))) (G.length : Int) = ((B % c * p l j : Nat) : Int) := by
      show Int.tmod (wrap64 ((wrap64 (B : Int)) * Pe l j)) (G.length : Int) = _
      rw [e, w64 (n := (B : Int)) (by omega) (by omega), ← Int.natCast_mul, w64 (n := ((B * p l j : Nat) : Int)) (by omega) (by omega), Int.tmod_eq_emod_of_nonneg (Int.natCast_nonneg _), hG, hc]
      rw [← Int.natCast_emod, Nat.mul_comm (p l j) c, Nat.mul_mod_mul_right]
    have hq : (B % c + 1) * p l j ≤ fr := by
      rw [hc, Nat.mul_comm (p l j) c]
      exact Nat.mul_le_mul_right _ (Nat.mod_lt _ c0)
    have ex := exact L hj (B % c) hq
    rw [Nat.add_mul, Nat.one_mul] at hq
    rw [ej, if_neg (by omega), if_pos (by omega), if_pos (by omega), hfm]
    exact periods_l0 K hK l G (by omega) j hj (B % c * p l j) e (by omega) (p l j) (B % c * p l j) 0 (by omega) (by omega) (by omega) (by rw [Int.zero_add]; exact ex) k (by omega)
  · exact fin 7 (by omega) (h k (by omega)).1
  · exact fin e (by omega) (h k (by omega)).1
end Go.Proofs.Ytkfkghnmbemdiaa.Pure
