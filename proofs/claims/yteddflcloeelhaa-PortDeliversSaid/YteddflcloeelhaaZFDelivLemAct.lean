/- What a send, a read and a delivery on lines come to: lemmas for the statements of layer 18. No condition. -/
import Derived.Test.YteddflcloeelhaaZFDelivLem
namespace Go.Proofs.Yteddflcloeelhaa.PortLem
open Go.RowKit Go.Proofs.Yteddflcloeelhaa.FDeliv Go.Proofs.YteddflcloeelhaaW.PrintWords Go.Proofs.YteddflcloeelhaaW.PrintLast
set_option linter.unusedSimpArgs false
set_option linter.unusedVariables false
/-- What a send comes to. -/
def sent (l : List S76) (who i v : Int) : List S76 × Int :=
  if i < 0 ∨ i ≥ l.length then (l, 4) else
  if (rd_T76 l i).f0.f0 = who then (if (rd_T76 l i).f1.f2 = ((rd_T76 l i).f1.f0.length : Int) then (l, 3) else (l.set i.toNat ⟨(rd_T76 l i).f0, pushR (rd_T76 l i).f1 v, (rd_T76 l i).f2⟩, 0)) else (l, 7)
def took (l : List S76) (who i : Int) : Int × List S76 × Int :=
  if i < 0 ∨ i ≥ l.length then (0, l, 4) else
  if (rd_T76 l i).f0.f1 = who then (if (rd_T76 l i).f2.f2 = 0 then (0, l, 4) else (rd (rd_T76 l i).f2.f0 (rd_T76 l i).f2.f1, l.set i.toNat ⟨(rd_T76 l i).f0, (rd_T76 l i).f1, popR (rd_T76 l i).f2⟩, 0)) else (0, l, 7)
theorem send_ev (l : List S76) (h : OkL l) (who i v : Int) (k : Nat) (hk : 10 ≤ k) : port_Send.f k l who i v = some (sent l who i v) := by
  have hl := h.2
  have hj : ∀ k, 1 ≤ k → ∀ b : Bool, (b = true ↔ (i < 0 ∨ i ≥ l.length)) → port_Send.j0 k l who i v b = some (sent l who i v) := by
    intro k hk b hb
    obtain ⟨k, rfl⟩ : ∃ j, k = j + 1 := ⟨k - 1, by omega⟩
    rw [port_Send.j0]
    unfold sent
    by_cases c : b = true
    · rw [if_pos c, if_pos (hb.1 c)]
    · have c' : ¬ (i < 0 ∨ i ≥ l.length) := fun q => c (hb.2 q)
      rw [if_neg c, if_neg c', if_pos (by omega), if_pos (by omega)]
      obtain ⟨j, rfl⟩ : ∃ j : Nat, i = j := ⟨i.toNat, by omega⟩
      have hjl : j < l.length := by omega
      rw [rd76_get l j hjl, Int.toNat_natCast]
      have ho := h.1 l[j] (List.getElem_mem _)
      have hs := ok_small h l[j] (List.getElem_mem _)
      by_cases c2 : l[j].f0.f0 = who
      · rw [if_pos c2, if_pos c2, push_ev _ hs.1, if_pos ho.2.1]
        by_cases c3 : l[j].f1.f2 = (l[j].f1.f0.length : Int)
        · rw [if_pos c3, if_pos c3]; rfl
        · rw [if_neg c3, if_neg c3, Option.bind_some, if_pos rfl]
          have := pwith_ev l (by omega) j hjl ⟨l[j].f0, pushR l[j].f1 v, l[j].f2⟩
          simp only [pushR] at this
          rw [this]; rfl
      · rw [if_neg c2, if_neg c2]
  unfold port_Send.f
  rw [portRight_ev l (by omega) k (by omega), Option.bind_some, if_pos (by simpa using h)]
  by_cases c : i < 0
  · rw [if_pos c]; exact hj k (by omega) _ (by simp [c])
  · rw [if_neg c]; exact hj k (by omega) _ (by simp; omega)
theorem read_ev (l : List S76) (h : OkL l) (who i : Int) (k : Nat) (hk : 10 ≤ k) : port_Read.f k l who i = some (took l who i) := by
  have hl := h.2
  have hj : ∀ k, 1 ≤ k → ∀ b : Bool, (b = true ↔ (i < 0 ∨ i ≥ l.length)) → port_Read.j0 k l who i b = some (took l who i) := by
    intro k hk b hb
    obtain ⟨k, rfl⟩ : ∃ j, k = j + 1 := ⟨k - 1, by omega⟩
    rw [port_Read.j0]
    unfold took
    by_cases c : b = true
    · rw [if_pos c, if_pos (hb.1 c)]
    · have c' : ¬ (i < 0 ∨ i ≥ l.length) := fun q => c (hb.2 q)
      rw [if_neg c, if_neg c', if_pos (by omega), if_pos (by omega)]
      obtain ⟨j, rfl⟩ : ∃ j : Nat, i = j := ⟨i.toNat, by omega⟩
      have hjl : j < l.length := by omega
      rw [rd76_get l j hjl, Int.toNat_natCast]
      have ho := h.1 l[j] (List.getElem_mem _)
      have hs := ok_small h l[j] (List.getElem_mem _)
      by_cases c2 : l[j].f0.f1 = who
      · rw [if_pos c2, if_pos c2, pop_ev _ hs.2, if_pos ho.2.2.1]
        by_cases c3 : l[j].f2.f2 = 0
        · rw [if_pos c3, if_pos c3]; rfl
        · rw [if_neg c3, if_neg c3, Option.bind_some, if_pos rfl]
          have := pwith_ev l (by omega) j hjl ⟨l[j].f0, l[j].f1, popR l[j].f2⟩
          simp only [popR] at this
          rw [this]; rfl
      · rw [if_neg c2, if_neg c2]
  unfold port_Read.f
  rw [portRight_ev l (by omega) k (by omega), Option.bind_some, if_pos (by simpa using h)]
  by_cases c : i < 0
  · rw [if_pos c]; exact hj k (by omega) _ (by simp [c])
  · rw [if_neg c]; exact hj k (by omega) _ (by simp; omega)
/-- The last ones of a row, as many as may be. -/
def keep (c : Nat) (xs : List Int) : List Int := xs.drop (xs.length - c)
theorem keep_small (c : Nat) (xs : List Int) (h : xs.length ≤ c) : keep c xs = xs := by unfold keep; rw [show xs.length - c = 0 by omega]; rfl
theorem keep_length (c : Nat) (xs : List Int) : (keep c xs).length ≤ c := by unfold keep; rw [List.length_drop]; omega
theorem keep_keep (c : Nat) (xs ys : List Int) : keep c (keep c xs ++ ys) = keep c (xs ++ ys) := by
  unfold keep
  rw [List.length_append, List.length_drop, List.length_append]
  by_cases h : xs.length ≤ c
  · rw [show xs.length - c = 0 by omega, List.drop_zero, Nat.sub_zero]
  · by_cases h2 : ys.length ≤ c
    · rw [List.drop_append, List.drop_append, List.drop_drop, List.length_drop]
      congr 1
      · congr 1; omega
      · congr 1; omega
    · rw [List.drop_append, List.drop_append, List.drop_drop, List.length_drop, List.drop_eq_nil_of_le (show xs.length ≤ xs.length - c + (xs.length - (xs.length - c) + ys.length - c) by omega), List.drop_eq_nil_of_le (show xs.length ≤ xs.length + ys.length - c by omega)]
      congr 1
      congr 1; omega
def putR (r : S24) (v : Int) : S24 := if r.f2 = r.f0.length then pushR (popR r) v else pushR r v
theorem put_ev (r : S24) (v : Int) (h : Rg r.f0 r.f1 r.f2) (hl : r.f0.length ≤ 100) : ring_Put.f r.f0 r.f1 r.f2 v = some ((putR r v).f0, (putR r v).f1, (putR r v).f2) := by
  have h' := h
  unfold Rg at h'
  unfold ring_Put.f putR
  rw [push_ev _ hl, if_pos h]
  by_cases c : r.f2 = (r.f0.length : Int)
  · rw [if_pos c, if_pos c, Option.bind_some, if_pos rfl, pop_ev _ hl, if_pos h, if_neg (by omega), Option.bind_some]
    have q := popR_rg r h (by omega)
    have e := push_ev (popR r).f0 (by rw [q.2]; exact hl) (popR r).f1 (popR r).f2 v
    rw [if_pos q.1, if_neg (by have : (popR r).f2 = r.f2 - 1 := rfl; rw [this, q.2]; omega)] at e
    simp only [popR] at e
    dsimp only
    rw [e]; rfl
  · rw [if_neg c, if_neg c, Option.bind_some, if_neg (by dsimp only; omega)]; rfl
theorem putR_rg (r : S24) (v : Int) (h : Rg r.f0 r.f1 r.f2) : Rg (putR r v).f0 (putR r v).f1 (putR r v).f2 ∧ (putR r v).f0.length = r.f0.length := by
  have h' := h
  unfold Rg at h'
  unfold putR
  by_cases c : r.f2 = (r.f0.length : Int)
  · rw [if_pos c]
    have q := popR_rg r h (by omega)
    have p := pushR_rg (popR r) v q.1 (by have : (popR r).f2 = r.f2 - 1 := rfl; rw [this, q.2]; omega)
    exact ⟨p.1, by rw [p.2, q.2]⟩
  · rw [if_neg c]; exact pushR_rg r v h c
def ms (r : S24) : List Int := msgs r.f0 r.f1.toNat r.f2.toNat
theorem ms_len (r : S24) : (ms r).length = r.f2.toNat := msgs_length _ _ _
theorem putR_msgs (r : S24) (v : Int) (h : Rg r.f0 r.f1 r.f2) : ms (putR r v) = keep r.f0.length (ms r ++ [v]) := by
  have h' := h
  unfold Rg at h'
  have hl := ms_len r
  unfold putR
  by_cases c : r.f2 = (r.f0.length : Int)
  · rw [if_pos c]
    have q := popR_rg r h (by omega)
    have p := pushR_msgs (popR r) v q.1 (by have : (popR r).f2 = r.f2 - 1 := rfl; rw [this, q.2]; omega)
    have e := popR_msgs r h (by omega)
    show msgs _ _ _ = _
    rw [p]
    have e' : ms r = rd r.f0 r.f1 :: ms (popR r) := e
    have hl2 : (ms (popR r)).length + 1 = r.f0.length := by have := congrArg List.length e'; rw [List.length_cons] at this; omega
    rw [e']
    unfold keep
    rw [List.length_append, List.length_cons, List.length_singleton, show (ms (popR r)).length + 1 + 1 - r.f0.length = 1 by omega]
    rfl
  · rw [if_neg c, keep_small _ _ (by rw [List.length_append, List.length_singleton]; omega)]
    exact pushR_msgs r v h c
/-- All that is under way, one by one, into what is there. -/
def delN : Nat → S24 → S24 → S24 × S24
  | 0, u, g => (u, g)
  | n + 1, u, g => delN n (popR u) (putR g (rd u.f0 u.f1))
theorem delN_ok : ∀ (n : Nat) (u g : S24), Rg u.f0 u.f1 u.f2 → Rg g.f0 g.f1 g.f2 → u.f2 = n →
    Rg (delN n u g).1.f0 (delN n u g).1.f1 (delN n u g).1.f2 ∧ Rg (delN n u g).2.f0 (delN n u g).2.f1 (delN n u g).2.f2 ∧ (delN n u g).1.f0.length = u.f0.length ∧ (delN n u g).2.f0.length = g.f0.length ∧
      (delN n u g).1.f2 = 0 ∧ ms (delN n u g).2 = keep g.f0.length (ms g ++ ms u)
  | 0, u, g, hu, hg, e => by
    refine ⟨hu, hg, rfl, rfl, e, ?_⟩
    have h1 : ms u = [] := List.eq_nil_of_length_eq_zero (by rw [ms_len]; omega)
    show ms g = _
    rw [h1, List.append_nil, keep_small]
    rw [ms_len]; unfold Rg at hg; omega
  | n + 1, u, g, hu, hg, e => by
    have p := popR_rg u hu (by omega)
    have q := putR_rg g (rd u.f0 u.f1) hg
    obtain ⟨a, b, c, d, f, h⟩ := delN_ok n (popR u) (putR g (rd u.f0 u.f1)) p.1 q.1 (show u.f2 - 1 = _ by omega)
    refine ⟨a, b, by rw [← p.2]; exact c, by rw [← q.2]; exact d, f, ?_⟩
    show ms (delN n (popR u) (putR g (rd u.f0 u.f1))).2 = _
    rw [h, q.2, putR_msgs _ _ hg, keep_keep, List.append_assoc]
    have e' : ms u = rd u.f0 u.f1 :: ms (popR u) := popR_msgs u hu (by omega)
    rw [e']; rfl
/-- A line that is delivered. -/
def delX (x : S76) : S76 := ⟨x.f0, (delN x.f1.f2.toNat x.f1 x.f2).1, (delN x.f1.f2.toNat x.f1 x.f2).2⟩
theorem delX_ok {x : S76} (h : Ok1 x) : Ok1 (delX x) ∧ (delX x).f1.f2 = 0 ∧ (delX x).f0 = x.f0 ∧ ms (delX x).f1 = [] ∧ ms (delX x).f2 = keep x.f0.f2.toNat (ms x.f2 ++ ms x.f1) := by
  obtain ⟨h1, h2, h3, h4, h5⟩ := h
  have h2' := h2
  unfold Rg at h2'
  obtain ⟨a, b, c, d, e, f⟩ := delN_ok x.f1.f2.toNat x.f1 x.f2 h2 h3 (by omega)
  refine ⟨⟨h1, a, b, by show (((delN x.f1.f2.toNat x.f1 x.f2).1.f0.length : Nat) : Int) = _; rw [c]; exact h4, by show (((delN x.f1.f2.toNat x.f1 x.f2).2.f0.length : Nat) : Int) = _; rw [d]; exact h5⟩, e, rfl, ?_, ?_⟩
  · exact List.eq_nil_of_length_eq_zero (by rw [ms_len]; show (delN x.f1.f2.toNat x.f1 x.f2).1.f2.toNat = 0; rw [e]; rfl)
  · show ms (delN x.f1.f2.toNat x.f1 x.f2).2 = _
    rw [f, show x.f0.f2.toNat = x.f2.f0.length by omega]
theorem deliver_l1 (R : Option (List S76)) (x3 x14 : List S76) (x4 x15 x16 p0 p1 p2 : Int) (m : Nat) (hm : m ≤ 100) (K : Nat) : ∀ (n i : Nat) (u g : S24), Rg u.f0 u.f1 u.f2 → Rg g.f0 g.f1 g.f2 → u.f0.length ≤ 100 → g.f0.length ≤ 100 → u.f2 = n → i + n = m → ∀ k, n + K + 1 ≤ k →
    (∀ k, K ≤ k → ((port_with.f x3 x4 p0 p1 p2 (delN n u g).1.f0 (delN n u g).1.f1 (delN n u g).1.f2 (delN n u g).2.f0 (delN n u g).2.f1 (delN n u g).2.f2).bind fun t236 => (port_Deliver.l0 k t236 x14 x15 (wrap64 (x16 + 1)))) = R) →
    port_Deliver.l1 k x3 x4 x14 x15 x16 (m : Int) (i : Int) p0 p1 p2 u.f0 u.f1 u.f2 g.f0 g.f1 g.f2 = R
  | 0, i, u, g, hu, hg, hul, hgl, e, hi, k, hk, hR => by
    obtain ⟨k, rfl⟩ : ∃ j, k = j + 1 := ⟨k - 1, by omega⟩
    rw [port_Deliver.l1, if_neg (by omega)]
    exact hR k (by omega)
  | n + 1, i, u, g, hu, hg, hul, hgl, e, hi, k, hk, hR => by
    obtain ⟨k, rfl⟩ : ∃ j, k = j + 1 := ⟨k - 1, by omega⟩
    have p := popR_rg u hu (by omega)
    have q := putR_rg g (rd u.f0 u.f1) hg
    rw [port_Deliver.l1, if_pos (by omega), pop_ev _ hul, if_pos hu, if_neg (by omega), Option.bind_some]
    dsimp only
    rw [put_ev g _ hg hgl, Option.bind_some, w64 (n := (i : Int) + 1) (by omega) (by omega), show (i : Int) + 1 = ((i + 1 : Nat) : Int) by omega]
    exact deliver_l1 R x3 x14 x4 x15 x16 p0 p1 p2 m hm K n (i + 1) (popR u) (putR g (rd u.f0 u.f1)) p.1 q.1 (by rw [p.2]; exact hul) (by rw [q.2]; exact hgl) (show u.f2 - 1 = _ by omega) (by omega) k (by omega) hR
theorem deliver_l0 (l : List S76) (h : OkL l) : ∀ (n i : Nat), i + n = l.length → ∀ k, 10 * n + 1 ≤ k → port_Deliver.l0 k ((l.take i).map delX ++ l.drop i) l (l.length : Int) (i : Int) = some (l.map delX)
  | 0, i, hi, k, hk => by
    obtain ⟨k, rfl⟩ : ∃ j, k = j + 1 := ⟨k - 1, by omega⟩
    rw [port_Deliver.l0, if_neg (by omega), List.take_of_length_le (by omega), List.drop_eq_nil_of_le (by omega), List.append_nil]
  | n + 1, i, hi, k, hk => by
    obtain ⟨k, rfl⟩ : ∃ j, k = j + 1 := ⟨k - 1, by omega⟩
    have hlt : i < l.length := by omega
    have hl := h.2
    have ho := h.1 l[i] (List.getElem_mem _)
    have hs := ok_small h l[i] (List.getElem_mem _)
    obtain ⟨h1, h2, h3, h4, h5⟩ := ho
    have h2' := h2
    unfold Rg at h2'
    have h1' := h1.2.2.2.2.2.2
    rw [port_Deliver.l0, if_pos (by omega), if_pos (by omega), if_pos (by omega), rd76_get l i hlt]
    have em : l[i].f1.f2 = ((l[i].f1.f2.toNat : Nat) : Int) := by omega
    have key := deliver_l1 (some (l.map delX)) ((l.take i).map delX ++ l.drop i) l (i : Int) (l.length : Int) (i : Int) l[i].f0.f0 l[i].f0.f1 l[i].f0.f2 l[i].f1.f2.toNat (by omega) (10 * n + 1) l[i].f1.f2.toNat 0 l[i].f1 l[i].f2 h2 h3 hs.1 hs.2 em (by omega) k (by omega) ?_
    · rw [← em] at key; exact key
    · intro k hk
      have e := pwith_ev ((l.take i).map delX ++ l.drop i) (by simp; omega) i (by simp; omega) (delX l[i])
      have e2 : ((l.take i).map delX ++ l.drop i).set i (delX l[i]) = (l.take (i + 1)).map delX ++ l.drop (i + 1) := by
        rw [List.set_append_right _ _ (by simp; omega), List.length_map, List.length_take, show i - min i l.length = 0 by omega, List.drop_eq_getElem_cons hlt, List.set_cons_zero, List.take_succ_eq_append_getElem hlt, List.map_append, List.append_assoc]
        rfl
      rw [e2] at e
      simp only [delX] at e
      rw [e, Option.bind_some, w64 (n := (i : Int) + 1) (by omega) (by omega), show (i : Int) + 1 = ((i + 1 : Nat) : Int) by omega]
      exact deliver_l0 l h n (i + 1) (by omega) k hk
theorem deliver_ev (l : List S76) (h : OkL l) (k : Nat) (hk : 100 ≤ k) : port_Deliver.f k l = some (l.map delX) := by
  have hl := h.2
  unfold port_Deliver.f
  rw [portRight_ev l (by omega) k (by omega), Option.bind_some, if_pos (by simpa using h)]
  have := deliver_l0 l h l.length 0 (by omega) k (by omega)
  simpa using this
theorem deliver_bad (l : List S76) (h : ¬ OkL l) (hl : l.length ≤ 1000) (k : Nat) (hk : l.length + 1 ≤ k) : port_Deliver.f k l = some l := by
  unfold port_Deliver.f
  rw [portRight_ev l hl k hk, Option.bind_some, if_neg (by simpa using h)]
theorem delL_ok {l : List S76} (h : OkL l) : OkL (l.map delX) := by
  refine ⟨?_, by simpa using h.2⟩
  intro x hx
  obtain ⟨y, hy, rfl⟩ := List.mem_map.1 hx
  exact (delX_ok (h.1 y hy)).1
def dRow (r : S63) : S63 := ⟨r.f0, [], keep r.f0.f2.toNat (r.f2 ++ r.f1)⟩
theorem asRow_del {x : S76} (h : Ok1 x) : asRow (delX x) = dRow (asRow x) := by
  obtain ⟨_, _, _, e1, e2⟩ := delX_ok h
  show (⟨x.f0, ms (delX x).f1, ms (delX x).f2⟩ : S63) = ⟨x.f0, [], keep x.f0.f2.toNat (ms x.f2 ++ ms x.f1)⟩
  rw [e1, e2]
theorem new_ev (n : Int) (h1 : 1 ≤ n) (h2 : n ≤ 4) : ring_New.f n = some (List.replicate n.toNat 0, 0, 0, 0) := by
  unfold ring_New.f
  rw [if_neg (by omega), if_neg (by omega), if_pos (by omega), if_pos (by omega)]
/-- A line that begins. -/
def x0 (m : Int) : S76 := ⟨⟨1, 0, m⟩, ⟨List.replicate m.toNat 0, 0, 0⟩, ⟨List.replicate m.toNat 0, 0, 0⟩⟩
theorem open_ev (m : Int) (k : Nat) (hk : 10 ≤ k) : port_Open.f k [(⟨1, 0, m⟩ : S51)] = if 1 ≤ m ∧ m ≤ 4 then some ([x0 m], 0) else some ([], 1) := by
  unfold port_Open.f
  obtain ⟨k, rfl⟩ : ∃ j, k = j + 2 := ⟨k - 2, by omega⟩
  have e : rd_T51 [(⟨1, 0, m⟩ : S51)] 0 = ⟨1, 0, m⟩ := rfl
  rw [port_Open.l0, if_pos (by simp), if_pos (by decide), if_pos (by simp), e]
  have e2 := may_ev ⟨1, 0, m⟩
  dsimp only at e2 ⊢
  rw [e2, Option.bind_some]
  by_cases c : 1 ≤ m ∧ m ≤ 4
  · rw [if_pos (by simp [May]; omega), if_pos c, new_ev m c.1 c.2, Option.bind_some, Option.bind_some, if_pos (by simp), w64 (by decide) (by decide), port_Open.l0, if_neg (by simp), if_neg (by simp)]
    rfl
  · rw [if_neg (by simp [May]; omega), if_neg c]
theorem x0_ok (m : Int) (h1 : 1 ≤ m) (h2 : m ≤ 4) : Ok1 (x0 m) := by
  refine ⟨⟨Int.le_of_lt (by decide : (0:Int) < 1), (by decide : (1:Int) < 4), Int.le_refl 0, (by decide : (0:Int) < 4), (by decide : (1:Int) ≠ 0), h1, h2⟩, ?_, ?_, ?_, ?_⟩
  · simp only [x0, Rg, List.length_replicate]; omega
  · simp only [x0, Rg, List.length_replicate]; omega
  · simp only [x0, List.length_replicate]; omega
  · simp only [x0, List.length_replicate]; omega
theorem okL_one {x : S76} (h : Ok1 x) : OkL [x] := ⟨fun y hy => by rw [List.mem_singleton] at hy; rw [hy]; exact h, by simp⟩
theorem sent_one (x : S76) (v : Int) (m : Int) (e : x.f0 = ⟨1, 0, m⟩) : sent [x] 1 0 v = if x.f1.f2 = (x.f1.f0.length : Int) then ([x], 3) else ([⟨x.f0, pushR x.f1 v, x.f2⟩], 0) := by
  have : rd_T76 [x] 0 = x := rfl
  unfold sent
  rw [if_neg (by simp), this, if_pos (by rw [e])]
  rfl
theorem took_one (x : S76) (m : Int) (e : x.f0 = ⟨1, 0, m⟩) : took [x] 0 0 = if x.f2.f2 = 0 then (0, [x], 4) else (rd x.f2.f0 x.f2.f1, [⟨x.f0, x.f1, popR x.f2⟩], 0) := by
  have : rd_T76 [x] 0 = x := rfl
  unfold took
  rw [if_neg (by simp), this, if_pos (by rw [e])]
  rfl
theorem rdeliver_ev (r : S63) (h1 : r.f1.length ≤ 100) (h2 : r.f2.length ≤ 100) (h3 : 1 ≤ r.f0.f2) (h4 : r.f0.f2 ≤ 4) :
    remontoirref18_Deliver.f r.f0.f0 r.f0.f1 r.f0.f2 r.f1 r.f2 = some ((dRow r).f0.f0, (dRow r).f0.f1, (dRow r).f0.f2, (dRow r).f1, (dRow r).f2) := by
  unfold remontoirref18_Deliver.f
  rw [Option.bind_some, if_pos (by simp; omega), Option.bind_some, if_pos (by simp; omega), Option.bind_some, List.nil_append]
  have hw : wrap64 (((r.f2 ++ r.f1).length : Int) - r.f0.f2) = ((r.f2 ++ r.f1).length : Int) - r.f0.f2 := w64 (by simp; omega) (by simp; omega)
  rw [hw]
  unfold dRow keep
  by_cases c : ((r.f2 ++ r.f1).length : Int) - r.f0.f2 < 0
  · rw [if_pos c, if_pos (by omega), show (r.f2 ++ r.f1).length - r.f0.f2.toNat = 0 by omega]
  · rw [if_neg c, if_pos (by omega), if_pos (by omega), show (r.f2 ++ r.f1).length - r.f0.f2.toNat = (((r.f2 ++ r.f1).length : Int) - r.f0.f2).toNat by omega]
end Go.Proofs.Yteddflcloeelhaa.PortLem
