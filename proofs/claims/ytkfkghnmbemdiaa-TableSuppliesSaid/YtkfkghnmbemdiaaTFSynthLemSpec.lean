/- What synth.Lay and synth.Share come to: lemmas for the statements of layer 12. No condition. -/
import Derived.Test.YtkfkghnmbemdiaaTFSynthx0
import Derived.Test.YtkfkghnmbemdiaaTFSynthx2
import Derived.Test.YtkfkghnmbemdiaaTFSynthx3
import Derived.Test.YtkfkghnmbemdiaaTFSynthx4
import Derived.Test.YtkfkghnmbemdiaaTFSynthx5
import Derived.Test.YtkfkghnmbemdiaaTFSynthx6
import Derived.Test.YtkfkghnmbemdiaaTFSynthx7
import Derived.Test.YtkfkghnmbemdiaaTFSynthx8
import Derived.Test.YtkfkghnmbemdiaaTFSynthx9
import Derived.Test.YtkfkghnmbemdiaaTFSynthx10
import Derived.Test.YtkfkghnmbemdiaaTFSynthLemLay
namespace Go.Proofs.Ytkfkghnmbemdiaa.SynthSpec
open Go.RowKit Go.Proofs.Ytkfkghnmbemdiaa.FSynth Go.Proofs.Ytkfkghnmbemdiaa.SynthArith Go.Proofs.Ytkfkghnmbemdiaa.SynthLem Go.Proofs.Ytkfkghnmbemdiaa.SynthLay Go.Proofs.YtkfkghnmbemdiaaW.PrintWords Go.Proofs.YtkfkghnmbemdiaaW.PrintLast Go.Proofs.YtkfkghnmbemdiaaW.PrintMore
set_option linter.unusedSimpArgs false
set_option linter.unusedVariables false
theorem same_l : ∀ n (x : List Int) (i : Nat), x.length = i + n → x.length < 100000 → ∀ k, n + 1 ≤ k → remontoirref05_SameInts.l0 k x x i = some true
  | 0, x, i, hn, hl, k, hk => by
    obtain ⟨k, rfl⟩ : ∃ k', k = k' + 1 := ⟨k - 1, by omega⟩
    rw [remontoirref05_SameInts.l0, if_neg (by omega)]
  | n + 1, x, i, hn, hl, k, hk => by
    obtain ⟨k, rfl⟩ : ∃ k', k = k' + 1 := ⟨k - 1, by omega⟩
    rw [remontoirref05_SameInts.l0, if_pos (by omega), if_pos (by omega), if_pos (by omega), if_pos rfl, w64 (by omega) (by omega)]
    exact same_l n x (i + 1) (by omega) hl k (by omega)
theorem SameInts_ev (x y : List Int) (e : x = y) (hl : x.length < 100000) (k : Nat) (hk : x.length + 1 ≤ k) : remontoirref05_SameInts.f k x y = some true := by
  subst e
  unfold remontoirref05_SameInts.f
  rw [if_pos rfl]; exact same_l x.length x 0 (by omega) hl k hk
/-- A frame that was laid. -/
structure Laid (l : List S54) (fr : Nat) (G : List Int) : Prop where
  rt : RtAll l
  four : l.length ≤ 4
  pos : 1 ≤ fr
  most : fr ≤ 240
  div : allP l l.length fr
  len : G.length = fr
  pk : PK l G
  good : ∀ s, s ≤ fr → good l s (G.take s)
/-- A frame that was not: at its end a period had not its budget. -/
structure Late (l : List S54) (fr e : Nat) (G : List Int) : Prop where
  rt : RtAll l
  four : l.length ≤ 4
  most : fr ≤ 240
  div : allP l l.length fr
  pos : 1 ≤ e
  le : e ≤ fr
  len : G.length = e
  pk : PK l G
  good : ∀ s, s < e → good l s (G.take s)
  bad : ¬ SynthLay.good l e G
set_option maxRecDepth 100000 in
theorem Lay_ev (l : List S54) : (∃ fr G, Laid l fr G ∧ ∀ k, 300000 ≤ k → synth_Lay.f k l = some (G, 0) ∧ remontoirref12_Lay.f k l = some (G, 0) ∧ synth_Frame.f k l = some ((fr : Int), 0)) ∨
    (∃ fr e G, Late l fr e G ∧ ∀ k, 300000 ≤ k → synth_Lay.f k l = some ([], 7) ∧ remontoirref12_Lay.f k l = some ([], 7) ∧ synth_Frame.f k l = some ((fr : Int), 0)) ∨
    (∃ e, (e = 1 ∨ e = 5) ∧ ∀ k, 300000 ≤ k → synth_Lay.f k l = some ([], e) ∧ remontoirref12_Lay.f k l = some ([], e) ∧ synth_Frame.f k l = some (0, e)) := by
  rcases Frame_ev l with ⟨r, h1, h2, h3, h4, h5, h6⟩ | ⟨e, h1, h2⟩
  · obtain ⟨fr, rfl⟩ : ∃ fr : Nat, r = fr := ⟨r.toNat, by omega⟩
    have i0 : InvL l 0 [] (List.replicate l.length 0) := by
      refine ⟨by simp, rfl, fun j hj => ?_⟩
      rw [if_pos rfl, rd_get _ _ (by simpa using hj)]; simp
    have e1 : ∀ k, 300000 ≤ k → synth_Lay.f k l = synth_Lay.l0 k l fr ((0 : Nat) : Int) (List.replicate l.length 0) [] := fun k hk => by
      unfold synth_Lay.f
      rw [(h6 k (by omega)).1, Option.bind_some, if_pos rfl, if_pos (by omega), if_pos (by dsimp only; omega)]; rfl
    have e2 : ∀ k, 300000 ≤ k → remontoirref12_Lay.f k l = remontoirref12_Lay.l0 k l fr [] ((0 : Nat) : Int) := fun k hk => by
      unfold remontoirref12_Lay.f
      rw [(h6 k (by omega)).2, Option.bind_some, if_pos rfl]; rfl
    have hm : fr * 1020 ≤ 240 * 1020 := Nat.mul_le_mul_right _ (by omega)
    rcases run l h1 h2 fr (by omega) fr 0 [] _ (by omega) i0 (fun t ht => by simp at ht) (fun s hs j hj _ h0 => by omega) with ⟨G, q1, q2, q3, q4, q5⟩ | ⟨G, e, q1, q2, q3, q4, q5, q6, q7, q8⟩
    · left
      exact ⟨fr, G, ⟨h1, h2, by omega, by omega, h5, q1, q2, q3⟩, fun k hk => ⟨by rw [e1 k hk]; exact q4 k (by omega), by rw [e2 k hk]; exact q5 k (by omega), (h6 k (by omega)).1⟩⟩
    · right; left
      exact ⟨fr, e, G, ⟨h1, h2, by omega, h5, q1, q2, q3, q4, q5, q6⟩, fun k hk => ⟨by rw [e1 k hk]; exact q7 k (by omega), by rw [e2 k hk]; exact q8 k (by omega), (h6 k (by omega)).1⟩⟩
  · right; right
    refine ⟨e, h1, fun k hk => ⟨?_, ?_, (h2 k (by omega)).1⟩⟩
    · unfold synth_Lay.f
      rw [(h2 k (by omega)).1, Option.bind_some, if_neg (by dsimp only; omega)]
    · unfold remontoirref12_Lay.f
      rw [(h2 k (by omega)).2, Option.bind_some, if_neg (by dsimp only; omega)]
/-- How many ticks are wanted, of some interfaces. -/
def shF (l : List S54) (fr : Int) (i : Nat) : Nat → Int
  | 0 => 0
  | n + 1 => fr / Pe l i * Bu l i + shF l fr (i + 1) n
theorem sh_one {l : List S54} (h : RtAll l) {i : Nat} (hi : i < l.length) {fr : Int} (h0 : 0 ≤ fr) (h1 : fr ≤ 240) : 0 ≤ fr / Pe l i ∧ fr / Pe l i ≤ 240 ∧ 0 ≤ fr / Pe l i * Bu l i ∧ fr / Pe l i * Bu l i ≤ 48000 := by
  obtain ⟨a, b, c⟩ := h i hi
  have q1 := Int.ediv_nonneg h0 (show 0 ≤ Pe l i by omega)
  have q2 := Int.ediv_le_self (Pe l i) h0
  refine ⟨q1, by omega, Int.mul_nonneg q1 (by omega), ?_⟩
  have := Int.mul_le_mul (show fr / Pe l i ≤ 240 by omega) (show Bu l i ≤ 200 by omega) (by omega) (by omega)
  omega
def bd (i : Nat) : Int := 48000 * (i : Int)
theorem bd_succ (i : Nat) : bd (i + 1) = bd i + 48000 := by unfold bd; omega
theorem bd_le (i : Nat) (h : i ≤ 4) : 0 ≤ bd i ∧ bd i ≤ 192000 := by unfold bd; omega
/-! ### Periods -/
theorem had_take (G : List Int) (j a s : Nat) : hadN (G.take s) j a = cntI ((G.drop a).take (s - a)) j := by
  unfold hadN; rw [List.drop_take]
theorem pk_budget {l : List S54} (h : RtAll l) {G : List Int} (pk : PK l G) {j : Nat} (hj : j < l.length) (q : Nat) : ∀ u, u ≤ p l j → q * p l j + u ≤ G.length → hadN (G.take (q * p l j + u)) j (q * p l j) ≤ Bu l j
  | 0, _, hG => by
    obtain ⟨a, b, c⟩ := h j hj
    have := hadN_end (G.take (q * p l j + 0)) j
    rw [List.length_take, Nat.min_eq_left (by omega)] at this
    rw [Nat.add_zero] at this ⊢; omega
  | u + 1, hu, hG => by
    have ih := pk_budget h pk hj q u (by omega) (by omega)
    have ht : q * p l j + u < G.length := by omega
    have e : G.take (q * p l j + (u + 1)) = G.take (q * p l j + u) ++ [rd G ((q * p l j + u : Nat) : Int)] := by
      rw [← Nat.add_assoc, List.take_add_one, List.getElem?_eq_getElem ht, rd_get _ _ ht]; rfl
    rw [e, hadN_snoc _ _ _ _ (by rw [List.length_take]; omega)]
    have hp := pk _ ht
    have hps : ps l j (q * p l j + u) = q * p l j := by
      unfold ps
      rw [Nat.mul_comm q, Nat.mul_add_div (by omega), Nat.div_eq_of_lt (by omega), Nat.add_zero, Nat.mul_comm]
    by_cases c : rd G ((q * p l j + u : Nat) : Int) = (j : Int)
    · rw [if_pos c]
      rcases hp with ⟨h1, _⟩ | ⟨m, h1, h2, h3, h4, h5⟩
      · omega
      · have : m = j := by omega
        subst this
        dsimp only at h4
        unfold wt at h4
        rw [hps] at h4; omega
    · rw [if_neg c]; omega
theorem exact {l : List S54} {fr : Nat} {G : List Int} (L : Laid l fr G) {j : Nat} (hj : j < l.length) (q : Nat) (hq : (q + 1) * p l j ≤ fr) : cntI ((G.drop (q * p l j)).take (p l j)) j = Bu l j := by
  obtain ⟨e, e1, e2⟩ := p_eq L.rt hj
  rw [Nat.add_mul, Nat.one_mul] at hq
  have h1 := pk_budget L.rt L.pk hj q (p l j) (Nat.le_refl _) (by rw [L.len]; exact hq)
  have h2 := L.good (q * p l j + p l j) hq j hj (by rw [show q * p l j + p l j = (q + 1) * p l j by rw [Nat.add_mul, Nat.one_mul]]; exact Nat.mul_mod_left _ _) (by omega)
  rw [Nat.add_sub_cancel] at h2
  rw [had_take, Nat.add_sub_cancel_left] at h1 h2
  omega
end Go.Proofs.Ytkfkghnmbemdiaa.SynthSpec
