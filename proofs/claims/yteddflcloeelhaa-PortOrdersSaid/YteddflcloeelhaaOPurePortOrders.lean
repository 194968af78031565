/- The statement PortOrders over plain data: true. No condition. -/
import Derived.Test.YteddflcloeelhaaOFOrdLemAct
import Derived.Test.YteddflcloeelhaaOFOrdx10
namespace Go.Proofs.Yteddflcloeelhaa.Pure
open Go.RowKit Go.Proofs.Yteddflcloeelhaa.FOrd Go.Proofs.Yteddflcloeelhaa.PortLem Go.Proofs.YteddflcloeelhaaW.PrintWords Go.Proofs.YteddflcloeelhaaW.PrintLast
set_option linter.unusedSimpArgs false
set_option linter.unusedVariables false
theorem orders_end (K : Nat) (hK : ∀ k, K ≤ k → remontoirlaw18_knows.f k = some true) (l1 : List Int) (m last i : Int) (x : S76) (hx : Ok1 x) (ex : x.f0 = ⟨1, 0, m⟩) (k : Nat) (hk : K + 500 ≤ k) :
    remontoirlaw18_PortOrders.j1 k m l1 [x] last i false 1 0 m (ms x.f1) (ms x.f2) = some true := by
  obtain ⟨k, rfl⟩ : ∃ j, k = j + 1 := ⟨k - 1, by omega⟩
  have e : (⟨(⟨1, 0, m⟩ : S51), ms x.f1, ms x.f2⟩ : S63) = asRow x := by rw [← ex]; rfl
  have h := okL_one hx
  rw [remontoirlaw18_PortOrders.j1, if_neg (by decide), lAs_ev [x] h k (by omega), Option.bind_some, e]
  have hs := lsame_ev [asRow x] (by simp) (rows_small h) k (by simp; omega)
  rw [List.map_singleton, hs, Option.bind_some, if_pos rfl, hK k (by omega)]
  rfl
/-- What is there and under way rises, from behind what was read last, and lies below i. -/
def Up (last : Int) (i : Int) (x : S76) : Prop := List.Pairwise (· < ·) (last :: (ms x.f2 ++ ms x.f1)) ∧ ∀ v ∈ last :: (ms x.f2 ++ ms x.f1), v < i
theorem orders_l0 (K : Nat) (hK : ∀ k, K ≤ k → remontoirlaw18_knows.f k = some true) (m : Int) (hm1 : 1 ≤ m) (hm2 : m ≤ 4) (l1 : List Int) : ∀ (d i : Nat) (last : Int) (x : S76), i + d = 60 → Ok1 x → x.f0 = ⟨1, 0, m⟩ → Up last i x →
    ∀ k, K + 1000 + 3 * d ≤ k → remontoirlaw18_PortOrders.l0 k m l1 [x] last (i : Int) 1 0 m (ms x.f1) (ms x.f2) = some true
  | 0, i, last, x, hi, hx, ex, hu, k, hk => by
    obtain ⟨k, rfl⟩ : ∃ j, k = j + 1 := ⟨k - 1, by omega⟩
    have F := orders_end K hK l1 m last i x hx ex k (by omega)
    rw [remontoirlaw18_PortOrders.l0, decide_eq_false (show ¬ (i : Int) < 60 by omega)]
    by_cases c : (i : Int) < (l1.length : Int)
    · rw [if_pos c]; exact F
    · rw [if_neg c]; exact F
  | d + 1, i, last, x, hi, hx, ex, hu, k, hk => by
    obtain ⟨k, rfl⟩ : ∃ j, k = j + 3 := ⟨k - 3, by omega⟩
    have hw : wrap64 ((i : Int) + 1) = ((i + 1 : Nat) : Int) := by rw [w64 (by omega) (by omega)]; rfl
    have lu : (ms x.f1).length = x.f1.f2.toNat := ms_len _
    have lg : (ms x.f2).length = x.f2.f2.toNat := ms_len _
    have l1' := hx.2.2.2.1
    have l2' := hx.2.2.2.2
    rw [ex] at l1' l2'
    dsimp only at l1' l2'
    have r1 := hx.2.1
    have r2 := hx.2.2.1
    unfold Rg at r1 r2
    have hu' : Up last ((i + 1 : Nat) : Int) x := ⟨hu.1, fun v hv => by have := hu.2 v hv; omega⟩
    by_cases c : (i : Int) < (l1.length : Int)
    · rw [remontoirlaw18_PortOrders.l0, if_pos c, decide_eq_true (show (i : Int) < 60 by omega), remontoirlaw18_PortOrders.j1, if_pos rfl, if_pos (by omega), if_pos c, hw]
      by_cases c1 : rd l1 (i : Int) = 0
      · rw [if_pos c1, send_ev [x] (okL_one hx) _ _ _ (k + 1) (by omega), Option.bind_some, sent_one x _ m ex]
        by_cases c2 : x.f1.f2 = (x.f1.f0.length : Int)
        · rw [if_pos c2]
          dsimp only
          rw [if_neg (by rw [decide_eq_false (by omega)]; decide), if_neg (by decide)]
          exact orders_l0 K hK m hm1 hm2 l1 d (i + 1) last x (by omega) hx ex hu' (k + 1) (by omega)
        · rw [if_neg c2]
          dsimp only
          rw [if_neg (by rw [decide_eq_true (by omega)]; decide), if_pos rfl, Option.bind_some, if_pos (by simp; omega), Option.bind_some, if_pos (by simp; omega)]
          have px := pushR_rg x.f1 i hx.2.1 c2
          have pm : ms (pushR x.f1 i) = ms x.f1 ++ [(i : Int)] := pushR_msgs x.f1 i hx.2.1 c2
          have := orders_l0 K hK m hm1 hm2 l1 d (i + 1) last ⟨x.f0, pushR x.f1 i, x.f2⟩ (by omega) ⟨hx.1, px.1, hx.2.2.1, by rw [px.2]; exact hx.2.2.2.1, hx.2.2.2.2⟩ ex ?_ (k + 1) (by omega)
          · dsimp only at this
            rw [pm] at this
            rw [List.nil_append]; exact this
          · unfold Up
            dsimp only
            rw [pm, ← List.append_assoc, ← List.cons_append]
            refine ⟨List.pairwise_append.2 ⟨hu.1, List.pairwise_singleton _ _, fun a ha b hb => ?_⟩, fun v hv => ?_⟩
            · rw [List.mem_singleton] at hb; rw [hb]; exact hu.2 a ha
            · rcases List.mem_append.1 hv with hv | hv
              · exact hu'.2 v hv
              · rw [List.mem_singleton] at hv; omega
      · rw [if_neg c1]
        by_cases c2 : rd l1 (i : Int) = 1
        · rw [if_pos c2, read_ev [x] (okL_one hx) _ _ (k + 1) (by omega), Option.bind_some, took_one x m ex]
          by_cases c3 : x.f2.f2 = 0
          · rw [if_pos c3]
            dsimp only
            rw [if_neg (by rw [decide_eq_false (by omega)]; decide), if_neg (by decide), remontoirlaw18_PortOrders.j2, if_neg (by decide), if_neg (by decide), hw]
            exact orders_l0 K hK m hm1 hm2 l1 d (i + 1) last x (by omega) hx ex hu' k (by omega)
          · rw [if_neg c3]
            dsimp only
            have px := popR_rg x.f2 hx.2.2.1 c3
            have pm : ms x.f2 = rd x.f2.f0 x.f2.f1 :: ms (popR x.f2) := popR_msgs x.f2 hx.2.2.1 c3
            have hup := hu.1
            have hub := hu'.2
            rw [pm, List.cons_append] at hup hub
            have hlt := (List.pairwise_cons.1 hup).1 _ List.mem_cons_self
            rw [if_neg (by rw [decide_eq_true (by omega)]; decide), if_pos rfl, if_pos (by omega)]
            rw [if_pos (by rw [pm]; rfl), decide_eq_false (by omega), remontoirlaw18_PortOrders.j2, if_neg (by decide), if_pos rfl, if_pos (by omega), hw]
            have := orders_l0 K hK m hm1 hm2 l1 d (i + 1) (rd x.f2.f0 x.f2.f1) ⟨x.f0, x.f1, popR x.f2⟩ (by omega) ⟨hx.1, hx.2.1, px.1, hx.2.2.2.1, by rw [px.2]; exact hx.2.2.2.2⟩ ex
              ⟨(List.pairwise_cons.1 hup).2, fun v hv => hub v (List.mem_cons_of_mem _ hv)⟩ k (by omega)
            dsimp only at this
            rw [pm, List.drop_one, List.tail_cons]; exact this
        · rw [if_neg c2, deliver_ev [x] (okL_one hx) (k + 1) (by omega), Option.bind_some]
          obtain ⟨a1, a2, a3, a4, a5⟩ := delX_ok hx
          have e : (⟨(⟨1, 0, m⟩ : S51), ms x.f1, ms x.f2⟩ : S63) = asRow x := by rw [← ex]; rfl
          have hs := rows_small (okL_one hx) (asRow x) (by simp)
          have hr := rdeliver_ev ⟨⟨1, 0, m⟩, ms x.f1, ms x.f2⟩ (by dsimp only; omega) (by dsimp only; omega) hm1 hm2
          dsimp only at hr
          rw [hr, Option.bind_some]
          have := orders_l0 K hK m hm1 hm2 l1 d (i + 1) last (delX x) (by omega) a1 (a3.trans ex) ?_ (k + 1) (by omega)
          · rw [a4, a5, ex] at this
            exact this
          · unfold Up
            rw [a4, a5, List.append_nil]
            have hsub : List.Sublist (last :: keep x.f0.f2.toNat (ms x.f2 ++ ms x.f1)) (last :: (ms x.f2 ++ ms x.f1)) := List.Sublist.cons_cons _ (List.drop_sublist _ _)
            exact ⟨hu.1.sublist hsub, fun v hv => hu'.2 v (hsub.subset hv)⟩
    · rw [remontoirlaw18_PortOrders.l0, if_neg c]
      exact orders_end K hK l1 m last i x hx ex (k + 2) (by omega)
theorem PortOrders : remontoirlaw18_PortOrders.Pure := by
  intro m l1 _ _
  obtain ⟨K, hK⟩ := knows_ev
  refine ⟨K + 1500, ?_⟩
  unfold remontoirlaw18_PortOrders.f
  rw [open_ev m _ (by omega)]
  by_cases c : 1 ≤ m ∧ m ≤ 4
  · rw [if_pos c, Option.bind_some, if_pos rfl]
    exact orders_l0 K hK m c.1 c.2 l1 60 0 (-1) (x0 m) rfl (x0_ok m c.1 c.2) rfl ⟨List.pairwise_singleton _ _, fun v hv => by rw [show v = -1 from List.mem_singleton.1 hv]; decide⟩ _ (by omega)
  · rw [if_neg c, Option.bind_some, if_neg (by decide), if_pos (by rfl), hK _ (by omega)]
    rfl
end Go.Proofs.Yteddflcloeelhaa.Pure
