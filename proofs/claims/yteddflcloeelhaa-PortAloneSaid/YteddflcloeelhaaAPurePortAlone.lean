/- The statement PortAlone over plain data: true. No condition. -/
import Derived.Test.YteddflcloeelhaaAFAloneLemAct
import Derived.Test.YteddflcloeelhaaAFAlonex5
namespace Go.Proofs.Yteddflcloeelhaa.Pure
open Go.RowKit Go.Proofs.Yteddflcloeelhaa.FAlone Go.Proofs.Yteddflcloeelhaa.PortLem Go.Proofs.YteddflcloeelhaaW.PrintWords Go.Proofs.YteddflcloeelhaaW.PrintLast
set_option linter.unusedSimpArgs false
set_option linter.unusedVariables false
theorem alone_end (K : Nat) (hK : ∀ k, K ≤ k → remontoirlaw18_knows.f k = some true) (l1 : List Int) (i : Int) (x y : S76) (hx : Ok1 x) (hy : Ok1 y) (k : Nat) (hk : K + 20 ≤ k) :
    remontoirlaw18_PortAlone.j1 k l1 [x] [y] i false = some true := by
  obtain ⟨k, rfl⟩ : ∃ j, k = j + 1 := ⟨k - 1, by omega⟩
  rw [remontoirlaw18_PortAlone.j1, if_neg (by decide), portRight_ev [x] (by simp) k (by simp; omega), Option.bind_some, if_pos (by simpa using okL_one hx), portRight_ev [y] (by simp) k (by simp; omega), Option.bind_some,
    if_pos (by simpa using okL_one hy), hK k (by omega)]
  rfl
theorem alone_l0 (K : Nat) (hK : ∀ k, K ≤ k → remontoirlaw18_knows.f k = some true) (m : Int) (l1 : List Int) : ∀ (d i : Nat) (x y : S76), i + d = 60 → Ok1 x → Ok1 y → x.f0 = ⟨1, 0, m⟩ → y.f0 = ⟨1, 0, m⟩ → x.f1.f2 = y.f1.f2 →
    ∀ k, K + 500 + 2 * d ≤ k → remontoirlaw18_PortAlone.l0 k l1 [x] [y] (i : Int) = some true
  | 0, i, x, y, hi, hx, hy, ex, ey, e, k, hk => by
    obtain ⟨k, rfl⟩ : ∃ j, k = j + 1 := ⟨k - 1, by omega⟩
    have F := alone_end K hK l1 i x y hx hy k (by omega)
    rw [remontoirlaw18_PortAlone.l0, decide_eq_false (show ¬ (i : Int) < 60 by omega)]
    by_cases c : (i : Int) < (l1.length : Int)
    · rw [if_pos c]; exact F
    · rw [if_neg c]; exact F
  | d + 1, i, x, y, hi, hx, hy, ex, ey, e, k, hk => by
    obtain ⟨k, rfl⟩ : ∃ j, k = j + 2 := ⟨k - 2, by omega⟩
    have hw : wrap64 ((i : Int) + 1) = ((i + 1 : Nat) : Int) := by rw [w64 (by omega) (by omega)]; rfl
    by_cases c : (i : Int) < (l1.length : Int)
    · rw [remontoirlaw18_PortAlone.l0, if_pos c, decide_eq_true (show (i : Int) < 60 by omega), remontoirlaw18_PortAlone.j1, if_pos rfl, if_pos (by omega), if_pos c, hw]
      by_cases c1 : rd l1 (i : Int) = 0
      · rw [if_pos c1, send_ev [x] (okL_one hx) _ _ _ k (by omega), Option.bind_some, send_ev [y] (okL_one hy) _ _ _ k (by omega), Option.bind_some, sent_one x _ m ex, sent_one y _ m ey]
        have lx := hx.2.2.2.1
        have ly := hy.2.2.2.1
        rw [ex] at lx; rw [ey] at ly
        dsimp only at lx ly
        by_cases c2 : x.f1.f2 = (x.f1.f0.length : Int)
        · rw [if_pos c2, if_pos (show y.f1.f2 = (y.f1.f0.length : Int) by omega)]
          dsimp only
          rw [if_pos rfl]
          exact alone_l0 K hK m l1 d (i + 1) x y (by omega) hx hy ex ey e k (by omega)
        · rw [if_neg c2, if_neg (show ¬ y.f1.f2 = (y.f1.f0.length : Int) by omega)]
          dsimp only
          rw [if_pos rfl]
          have px := pushR_rg x.f1 i hx.2.1 c2
          have py := pushR_rg y.f1 i hy.2.1 (by omega)
          exact alone_l0 K hK m l1 d (i + 1) ⟨x.f0, pushR x.f1 i, x.f2⟩ ⟨y.f0, pushR y.f1 i, y.f2⟩ (by omega) ⟨hx.1, px.1, hx.2.2.1, by rw [px.2]; exact hx.2.2.2.1, hx.2.2.2.2⟩ ⟨hy.1, py.1, hy.2.2.1, by rw [py.2]; exact hy.2.2.2.1, hy.2.2.2.2⟩ ex ey
            (show x.f1.f2 + 1 = y.f1.f2 + 1 by omega) k (by omega)
      · rw [if_neg c1]
        by_cases c2 : rd l1 (i : Int) = 1
        · rw [if_pos c2, read_ev [x] (okL_one hx) _ _ k (by omega), Option.bind_some, took_one x m ex]
          by_cases c3 : x.f2.f2 = 0
          · rw [if_pos c3]
            exact alone_l0 K hK m l1 d (i + 1) x y (by omega) hx hy ex ey e k (by omega)
          · rw [if_neg c3]
            have px := popR_rg x.f2 hx.2.2.1 c3
            exact alone_l0 K hK m l1 d (i + 1) ⟨x.f0, x.f1, popR x.f2⟩ y (by omega) ⟨hx.1, hx.2.1, px.1, hx.2.2.2.1, by rw [px.2]; exact hx.2.2.2.2⟩ hy ex ey e k (by omega)
        · rw [if_neg c2, deliver_ev [x] (okL_one hx) k (by omega), Option.bind_some, deliver_ev [y] (okL_one hy) k (by omega), Option.bind_some]
          obtain ⟨a1, a2, a3, _⟩ := delX_ok hx
          obtain ⟨b1, b2, b3, _⟩ := delX_ok hy
          exact alone_l0 K hK m l1 d (i + 1) (delX x) (delX y) (by omega) a1 b1 (a3.trans ex) (b3.trans ey) (a2.trans b2.symm) k (by omega)
    · rw [remontoirlaw18_PortAlone.l0, if_neg c]
      exact alone_end K hK l1 i x y hx hy (k + 1) (by omega)
theorem PortAlone : remontoirlaw18_PortAlone.Pure := by
  intro m l1 _ _
  obtain ⟨K, hK⟩ := knows_ev
  refine ⟨K + 700, ?_⟩
  unfold remontoirlaw18_PortAlone.f
  rw [open_ev m _ (by omega), ]
  by_cases c : 1 ≤ m ∧ m ≤ 4
  · rw [if_pos c, Option.bind_some, if_pos rfl]
    exact alone_l0 K hK m l1 60 0 (x0 m) (x0 m) rfl (x0_ok m c.1 c.2) (x0_ok m c.1 c.2) rfl rfl rfl _ (by omega)
  · rw [if_neg c, Option.bind_some, if_neg (by decide), if_pos (by rfl), hK _ (by omega)]
    rfl
end Go.Proofs.Yteddflcloeelhaa.Pure
