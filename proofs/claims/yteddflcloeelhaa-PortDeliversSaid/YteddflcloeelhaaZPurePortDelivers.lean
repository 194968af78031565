/- The statement PortDelivers over plain data: true. No condition. -/
import Derived.Test.YteddflcloeelhaaZFDelivLemAct
import Derived.Test.YteddflcloeelhaaZFDelivx13
namespace Go.Proofs.Yteddflcloeelhaa.Pure
open Go.RowKit Go.Proofs.Yteddflcloeelhaa.FDeliv Go.Proofs.Yteddflcloeelhaa.PortLem Go.Proofs.YteddflcloeelhaaW.PrintWords Go.Proofs.YteddflcloeelhaaW.PrintLast
set_option linter.unusedSimpArgs false
set_option linter.unusedVariables false
theorem map_del {l : List S76} (h : OkL l) : (l.map asRow).map dRow = (l.map delX).map asRow := by
  rw [List.map_map, List.map_map]
  apply List.map_congr_left
  intro x hx
  exact (asRow_del (h.1 x hx)).symm
theorem delivers_l0 (K : Nat) (hK : ∀ k, K ≤ k → remontoirlaw18_knows.f k = some true) (l : List S76) (h : OkL l) : ∀ (n i : Nat), i + n = l.length → ∀ k, K + 1000 + n ≤ k →
    remontoirlaw18_PortDelivers.l0 k (l.map delX) (((l.map asRow).take i).map dRow ++ (l.map asRow).drop i) (i : Int) = some true
  | 0, i, hi, k, hk => by
    obtain ⟨k, rfl⟩ : ∃ j, k = j + 1 := ⟨k - 1, by omega⟩
    have hl := h.2
    have hd := delL_ok h
    rw [List.take_of_length_le (by simp; omega), List.drop_eq_nil_of_le (by simp; omega), List.append_nil, map_del h, remontoirlaw18_PortDelivers.l0, if_neg (by simp; omega),
      lright_ev _ (by simp; omega) (ok_small hd) k (by simp; omega), Option.bind_some, if_pos (by simpa using hd), lAs_ev _ hd k (by omega), Option.bind_some, lsame_ev _ (by simp; omega) (rows_small hd) k (by simp; omega),
      Option.bind_some, if_pos rfl, hK k (by omega)]
    rfl
  | n + 1, i, hi, k, hk => by
    obtain ⟨k, rfl⟩ : ∃ j, k = j + 1 := ⟨k - 1, by omega⟩
    have hlt : i < l.length := by omega
    have hl := h.2
    have ho := h.1 l[i] (List.getElem_mem _)
    have hs := rows_small h (asRow l[i]) (List.mem_map_of_mem (List.getElem_mem _))
    have hlen : (((l.map asRow).take i).map dRow ++ (l.map asRow).drop i).length = l.length := by simp; omega
    have hg : rd_T63 (((l.map asRow).take i).map dRow ++ (l.map asRow).drop i) (i : Int) = asRow l[i] := by
      rw [rd63_get _ i (by rw [hlen]; exact hlt), List.getElem_append_right (by simp; omega)]
      simp [show min i l.length = i by omega]
    rw [remontoirlaw18_PortDelivers.l0, if_pos (by rw [hlen]; omega), if_pos (by omega), hg, rdeliver_ev (asRow l[i]) hs.1 hs.2 ho.1.2.2.2.2.2.1 ho.1.2.2.2.2.2.2, Option.bind_some, w64 (n := (i : Int) + 1) (by omega) (by omega), show (i : Int) + 1 = ((i + 1 : Nat) : Int) by omega,
      Int.toNat_natCast]
    have e2 : (((l.map asRow).take i).map dRow ++ (l.map asRow).drop i).set i (dRow (asRow l[i])) = ((l.map asRow).take (i + 1)).map dRow ++ (l.map asRow).drop (i + 1) := by
      have hlt2 : i < (l.map asRow).length := by simpa using hlt
      rw [List.set_append_right _ _ (by simp; omega), List.length_map, List.length_take, show i - min i (l.map asRow).length = 0 by omega, List.drop_eq_getElem_cons hlt2, List.set_cons_zero, List.take_succ_eq_append_getElem hlt2, List.map_append, List.append_assoc, List.getElem_map]
      rfl
    have := delivers_l0 K hK l h n (i + 1) (by omega) k (by omega)
    rw [← e2] at this
    exact this
theorem PortDelivers : remontoirlaw18_PortDelivers.Pure := by
  intro l hl
  obtain ⟨K, hK⟩ := knows_ev
  refine ⟨K + 2000 + l.length, ?_⟩
  generalize hkk : K + 2000 + l.length = k
  obtain ⟨b, eb, hb⟩ := great_ev l hl.1 l.length k 0 (by omega) (by omega)
  unfold remontoirlaw18_PortDelivers.f
  have eg : remontoirlaw18_great.f k l = some b := eb
  rw [eg, Option.bind_some]
  cases b with
  | true => rw [if_pos rfl, hK k (by omega)]; rfl
  | false =>
    obtain ⟨hll, hsm⟩ := hb rfl
    rw [List.drop_zero] at hsm
    have hs : ∀ x ∈ l, x.f1.f0.length ≤ 100 ∧ x.f2.f0.length ≤ 100 := fun x hx => by have := hsm x hx; omega
    rw [if_neg (by simp)]
    by_cases ok : OkL l
    · rw [deliver_ev l ok k (by omega), Option.bind_some, lright_ev l (by omega) hs k (by omega), Option.bind_some, if_pos (by simpa using ok), lAs_ev l ok k (by omega), Option.bind_some]
      have := delivers_l0 K hK l ok l.length 0 (by omega) k (by omega)
      simpa using this
    · rw [deliver_bad l ok (by omega) k (by omega), Option.bind_some, lright_ev l (by omega) hs k (by omega), Option.bind_some, if_neg (by simpa using ok), stays_ev l (by omega) hs k (by omega), Option.bind_some, if_pos rfl, hK k (by omega)]
      rfl
end Go.Proofs.Yteddflcloeelhaa.Pure
