/- Contracts of functions that the statement TopAlone reaches, and plain lemmas. No condition. -/
import Derived.Test.YtmngaagojkihbaaGreatZ16
namespace Go.Proofs.YtmngaagojkihbaaGreat.FTop
open Go.RowKit Go.Proofs.YtmngaagojkihbaaGreatW.PrintWords Go.Proofs.YtmngaagojkihbaaGreatW.PrintLast Go.Proofs.YtmngaagojkihbaaGreatW.PrintMore
attribute [local go_sem] max2_int min2_int max_two min_two
set_option linter.unusedVariables false
set_option linter.unusedSimpArgs false
set_option maxHeartbeats 8000000
set_option maxRecDepth 100000
theorem layGo_out (l : List S85) : ∀ (n : Nat) (t : Int) (ws out o : List Int), layGo l n t ws out = some o → (∀ x ∈ out, -1 ≤ x ∧ x < l.length) → o.length = out.length + n ∧ ∀ x ∈ o, -1 ≤ x ∧ x < l.length := by
  intro n
  induction n with
  | zero =>
    intro t ws out o h hb
    cases hr : begGo t l 0 ws with
    | none => rw [layGo_none _ hr] at h; cases h
    | some ws1 => rw [layGo_end hr] at h; obtain rfl := Option.some.inj h; exact ⟨rfl, hb⟩
  | succ n ih =>
    intro t ws out o h hb
    cases hr : begGo t l 0 ws with
    | none => rw [layGo_none _ hr] at h; cases h
    | some ws1 =>
      rw [layGo_some _ hr] at h
      have hx := nextGo_range t l 0 ws1 (-1) 0 (by omega) (by omega)
      have := ih _ _ _ _ h (fun x hx2 => by
        rcases List.mem_append.1 hx2 with h1 | h1
        · exact hb x h1
        · obtain rfl := List.mem_singleton.1 h1
          exact ⟨hx.1, by omega⟩)
      refine ⟨?_, this.2⟩
      rw [this.1, List.length_append]
      show out.length + 1 + n = _
      omega
theorem layI_out (l : List S85) (hs : ∀ f ∈ l, supR f = true) (h : (layI l).2 = 0) : 1 ≤ (layI l).1.length ∧ (layI l).1.length ≤ 240 ∧ ∀ x ∈ (layI l).1, -1 ≤ x ∧ x < l.length := by
  unfold layI at h ⊢
  cases hf : frG 1 l with
  | none => rw [hf] at h; exact absurd h (by simp)
  | some fr =>
    rw [hf] at h
    obtain ⟨h1, h2⟩ := frG_bd l 1 fr (by omega) (by omega) hs hf
    cases hl : layGo l fr.toNat 0 (List.replicate l.length 0) [] with
    | none => simp only [hl] at h; exact absurd h (by simp)
    | some o =>
      have := layGo_out l _ _ _ _ _ hl (fun x hx => nomatch hx)
      simp only [hl]
      refine ⟨?_, ?_, this.2⟩ <;> (rw [this.1]; show _ ≤ _; simp only [List.length_nil]; omega)
def endW : List S153 → Int → Int
  | [], e => e
  | x :: xs, _ => endW xs (x.f1 + x.f2)
def parW : List S153 → Int → Int
  | [], p => p
  | x :: xs, _ => parW xs x.f0
theorem endW_snoc (ws : List S153) (x : S153) (e : Int) : endW (ws ++ [x]) e = x.f1 + x.f2 := by
  induction ws generalizing e with
  | nil => rfl
  | cons y ys ih => exact ih _
theorem parW_snoc (ws : List S153) (x : S153) (p : Int) : parW (ws ++ [x]) p = x.f0 := by
  induction ws generalizing p with
  | nil => rfl
  | cons y ys ih => exact ih _
theorem tabL_snoc {fr : Int} (ws : List S153) (x : S153) (e la : Int) : tabL fr (ws ++ [x]) e la = true ↔ tabL fr ws e la = true ∧ mayW x fr = true ∧ ¬ x.f1 < endW ws e ∧ ¬ (x.f1 = endW ws e ∧ x.f0 = parW ws la) := by
  induction ws generalizing e la with
  | nil => rw [List.nil_append, tabL_cons]; simp [tabL, endW, parW]
  | cons y ys ih =>
    rw [List.cons_append, tabL_cons, tabL_cons, ih]
    simp only [endW, parW]
    constructor
    · rintro ⟨a, b, c, d, e⟩; exact ⟨⟨a, b, c, d⟩, e⟩
    · rintro ⟨⟨a, b, c, d⟩, e⟩; exact ⟨a, b, c, d, e⟩
theorem ofGo_right (fr : Int) (r : List Int) : ∀ (at_ last : Int) (ws : List S153), at_ + r.length ≤ fr → 0 ≤ at_ → (∀ x ∈ r, -1 ≤ x ∧ x < 4) → tabL fr ws 0 (-1) = true → endW ws 0 ≤ at_ → (last ≠ -1 → ∃ ys x, ws = ys ++ [x] ∧ x.f0 = last ∧ x.f1 + x.f2 = at_) → (last = -1 → endW ws 0 < at_ ∨ parW ws (-1) = -1) → tabL fr (ofGo r at_ last ws) 0 (-1) = true := by
  induction r with
  | nil => intro at_ last ws _ _ _ h _ _ _; exact h
  | cons p r ih =>
    intro at_ last ws hl h0 hb ht he hla hno
    rw [List.length_cons] at hl
    have hp := hb p (List.mem_cons_self ..)
    have hb2 : ∀ x ∈ r, -1 ≤ x ∧ x < 4 := fun x hx => hb x (List.mem_cons_of_mem _ hx)
    show tabL fr (ofGo r (at_ + 1) p (ofStep ws last at_ p)) 0 (-1) = true
    unfold ofStep
    by_cases c1 : p = -1
    · rw [if_pos c1]
      exact ih _ _ _ (by omega) (by omega) hb2 ht (by omega) (fun h => absurd c1 h) (fun _ => Or.inl (by omega))
    · rw [if_neg c1]
      by_cases c2 : p = last
      · rw [if_pos c2]
        obtain ⟨ys, x, rfl, hx, hxe⟩ := hla (by rw [← c2]; exact c1)
        have hlen : (ys ++ [x]).length - 1 = ys.length := by rw [List.length_append]; rfl
        have hget : (ys ++ [x]).getD ys.length z153 = x := by rw [List.getD_eq_getElem?_getD, List.getElem?_append_right (Nat.le_refl _), Nat.sub_self]; rfl
        have hset : (ys ++ [x]).set ys.length ⟨x.f0, x.f1, x.f2 + 1⟩ = ys ++ [⟨x.f0, x.f1, x.f2 + 1⟩] := by rw [List.set_append_right _ _ (Nat.le_refl _), Nat.sub_self]; rfl
        rw [hlen, hget, hset]
        obtain ⟨t1, t2, t3, t4⟩ := (tabL_snoc ys x 0 (-1)).1 ht
        have tm := mayW_iff.1 t2
        refine ih _ _ _ (by omega) (by omega) hb2 ?_ (by rw [endW_snoc]; show x.f1 + (x.f2 + 1) ≤ at_ + 1; omega) (fun _ => ⟨ys, _, rfl, by show x.f0 = p; rw [hx, c2], by show x.f1 + (x.f2 + 1) = at_ + 1; omega⟩) (fun h => absurd h c1)
        exact (tabL_snoc ys _ 0 (-1)).2 ⟨t1, mayW_iff.2 ⟨tm.1, tm.2.1, tm.2.2.1, tm.2.2.2.1, by show 1 ≤ x.f2 + 1; omega, by show x.f2 + 1 ≤ fr - x.f1; omega⟩, t3, t4⟩
      · rw [if_neg c2]
        refine ih _ _ _ (by omega) (by omega) hb2 ?_ (by rw [endW_snoc]; show at_ + 1 ≤ at_ + 1; omega) (fun _ => ⟨ws, _, rfl, rfl, rfl⟩) (fun h => absurd h c1)
        refine (tabL_snoc ws _ 0 (-1)).2 ⟨ht, mayW_iff.2 ⟨by show 0 ≤ p; omega, hp.2, h0, by show at_ < fr; omega, by show (1 : Int) ≤ 1; omega, by show (1 : Int) ≤ fr - at_; omega⟩, by show ¬ at_ < endW ws 0; omega, ?_⟩
        show ¬ (at_ = endW ws 0 ∧ p = parW ws (-1))
        rintro ⟨q1, q2⟩
        by_cases c3 : last = -1
        · rcases hno c3 with h | h
          · omega
          · exact c1 (q2.trans h)
        · obtain ⟨ys, x, rfl, hx, hxe⟩ := hla c3
          rw [parW_snoc, hx] at q2
          exact c2 q2
theorem ofT_right (l : List Int) (h1 : 1 ≤ l.length) (h2 : l.length ≤ 240) (hb : ∀ x ∈ l, -1 ≤ x ∧ x < 4) : tabR l.length (ofT l) = true :=
  tabR_iff.2 ⟨ofGo_right l.length l 0 (-1) [] (by omega) (by omega) hb rfl (Int.le_refl _) (fun h => absurd rfl h) (fun _ => Or.inr rfl), by omega, by omega⟩
def makeI (l : List S85) : Int × List S153 × Int := if (layI l).2 = 0 then (((layI l).1.length : Int), ofT (layI l).1, 0) else (0, [], (layI l).2)
theorem makeI_right (l : List S85) (hs : ∀ f ∈ l, supR f = true) (h4 : l.length ≤ 4) (h : (makeI l).2.2 = 0) : tabR (makeI l).1 (makeI l).2.1 = true := by
  unfold makeI at h ⊢
  by_cases c : (layI l).2 = 0
  · rw [if_pos c]
    obtain ⟨h1, h2, h3⟩ := layI_out l hs c
    exact ofT_right _ h1 h2 (fun x hx => ⟨(h3 x hx).1, by have := (h3 x hx).2; omega⟩)
  · rw [if_neg c] at h; exact absurd h c
theorem table_Make.calls (A : Option Addr) (c : Nat) (l : List S85) (w : World) (h : Kd.C k85 w A l.length l) (h4 : l.length ≤ 4) (hs : ∀ f ∈ l, supR f = true) :
    Calls Tryz.prog 30 #[.slice A l.length c] w fun e w' => ∃ v, e = .returned (.tuple #[.agg #[.int .i64 (makeI l).1, v], .int .i64 (makeI l).2.2]) ∧ Kd.N k153 153 w' w.heap.size (fun k => w.heap.size ≤ k) v (makeI l).2.1 ∧ Below w.heap.size w w' := by
  have hu := Tryz.underlying61
  have H := Aside0.mk h
  have HS := Aside0.mk hs
  have hb1 := @bl1 w (.cells #[.int .i64 0, .slice none 0 0] 61)
  have hR1 := blk_new w (.cells #[.int .i64 0, .slice none 0 0] 61)
  have hz1 : (w.alloc (.cells #[.int .i64 0, .slice none 0 0] 61)).heap.size = w.heap.size + 1 := alsz
  clear h hs
  go_enter Tryz.func30, Tryz.ntmps30
  go_wp2_with fail
  refine (synth_Lay.calls A c l _ (Kd.C_below H.out hb1) h4 HS.out).mono ?_; rintro _ w2 ⟨v, rfl, hN, hb2⟩
  obtain ⟨A2, c2, rfl⟩ := Kd.N_slice hN
  have HN := Aside0.mk hN
  have hR2 := blk_below hR1 hb2
  have hb3 := below_step hb1 hb2
  have hs2 := hb2.size
  rw [hz1] at hs2
  have hlo := Aside0.mk (layI_out l HS.out)
  have hmk := Aside0.mk (show makeI l = if (layI l).2 = 0 then (((layI l).1.length : Int), ofT (layI l).1, 0) else (0, [], (layI l).2) from rfl)
  clear hN hb2 hb1 hR1
  generalize (layI l).2 = e at hlo hmk ⊢
  generalize (layI l).1 = ts at HN hlo hmk ⊢
  by_cases ce : e = 0
  · obtain ⟨q1, q2, q3⟩ := hlo.out ce
    have hv := Aside0.mk (show makeI l = ((ts.length : Int), ofT ts, 0) by rw [hmk.out, if_pos ce])
    have q3 := Aside0.mk q3
    subst ce
    clear hlo hmk
    go_wp2_with fail
    refine (table_Of.calls A2 c2 ts w2 (Kd.N_reads' HN.out).2.2 q1 q2 (fun x hx => ⟨(q3.out x hx).1, by have := (q3.out x hx).2; omega⟩)).mono ?_; rintro _ w3 ⟨v, rfl, hN3, hb4⟩
    obtain ⟨A3, c3, rfl⟩ := Kd.N_slice hN3
    have HN3 := Aside0.mk hN3
    have hR3 := blk_below hR2 hb4
    have hb5 := below_step hb3 hb4
    clear hN3
    generalize ofT ts = us at HN3 hv ⊢
    go_wp2_with ((with_reducible refine gate_store (t := 61) (p := 2) (v := .tmp 17) rfl ?_); refine stB (w0 := w) (base := w.heap.size) (seg := [.int .i64 ts.length, .slice A3 us.length c3]) (cs' := [.int .i64 ts.length, .slice A3 us.length c3]) hR3 hb5 (Nat.le_refl _) (h := fun wy hBy hby hgy => ?_))
    (try simp only [Exit.inBlock, Exit.then])
    refine bodyPost_ret (results_list (rs := [.cell 2 61, .tmp 3]) rfl (by simp) (.cell _ 61 _ (0, 0) _ rfl hBy Tryz.underlying61 rfl (by kernel_rfl) (.tmp .nil))) rfl ?_
    refine ⟨_, by rw [hv.out]; rfl, ?_, hby⟩
    rw [hv.out]
    exact Kd.N_mono (Kd.N_grown (N_rebase HN3.out (by omega)) hgy (fun k hk he => by have := Option.some.inj he; omega)) (fun k hk => by omega)
  · have hv := Aside0.mk (show makeI l = (0, [], e) by rw [hmk.out, if_neg ce])
    have ce2 : (e != 0) = true := by simpa using ce
    have ce3 : (e == 0) = false := by simpa using ce
    clear ce hlo hmk
    go_wp2_with ((with_reducible refine gate_store (t := 61) (p := 2) (v := .tmp 13) rfl ?_); refine stB (w0 := w) (base := w.heap.size) (seg := [.int .i64 0, .slice none 0 0]) (cs' := [.int .i64 0, .slice none 0 0]) hR2 hb3 (Nat.le_refl _) (h := fun wy hBy hby hgy => ?_))
    (try simp only [Exit.inBlock, Exit.then])
    refine bodyPost_ret (results_list (rs := [.cell 2 61, .tmp 3]) rfl (by simp) (.cell _ 61 _ (0, 0) _ rfl hBy Tryz.underlying61 rfl (by kernel_rfl) (.tmp .nil))) rfl ?_
    exact ⟨_, by rw [hv.out]; rfl, by rw [hv.out]; exact Kd.N_nil _ _ _ _ _, hby⟩
def reader_one.T1 : Bool × List (List Nat × List Nat) := (true, [([], []), ([0], [0]), ([1], [1]), ([2], [2]), ([3], [3]), ([4], [4]), ([5], [5]), ([6, 5], [5, 6]), ([7, 5], [5, 7]), ([8, 5], [5, 8]), ([5], [5]), ([10, 5], [5, 10]), ([11, 5], [5, 11]), ([12, 5], [5, 12]), ([13, 5], [5, 13]), ([9, 14, 5], [5, 9, 14]), ([5, 15], [5, 15])])
def reader_one.B1 : List Nat := [0, 1, 3, 7, 15, 31, 63, 127, 255, 511, 63, 1087, 3135, 7231, 15423, 32767, 65535]
theorem reader_one.tab1 : rtab .any (opsOf Tryz.f24 1) = reader_one.T1 := by kernel_rfl
theorem reader_one.bits1 : waitsOk reader_one.T1.2 reader_one.B1 = true := by kernel_rfl
def reader_one.T6 : Bool × List (List Nat × List Nat) := (true, [([], []), ([0], [0]), ([1], [1]), ([2], [2]), ([], []), ([4], [4]), ([5], [5]), ([6], [6]), ([7], [7]), ([3, 8], [3, 8]), ([9], [9]), ([10], [10]), ([11, 0, 1, 2, 3, 4, 5, 6, 7, 8, 9, 10, 11], [11])])
def reader_one.B6 : List Nat := [0, 1, 3, 7, 0, 16, 48, 112, 240, 511, 1023, 2047, 4095]
theorem reader_one.tab6 : rtab .any (opsOf Tryz.f24 6) = reader_one.T6 := by kernel_rfl
theorem reader_one.bits6 : waitsOk reader_one.T6.2 reader_one.B6 = true := by kernel_rfl
def Rd (b : List Int) (Ab : Option Addr) (cb : Nat) (gr : Nat) (s : Nat × Int) (w : World) : Prop := w.heap[gr]? = some (.cells #[.slice Ab b.length cb, .int .i64 s.1, .int .i64 s.2] 96 (0, 0)) ∧ s.1 ≤ b.length
def oneR (b : List Int) (s : Nat × Int) : Int × (Nat × Int) := if s.2 = 0 then (if s.1 < b.length then (b.getD s.1 0, (s.1 + 1, 0)) else (0, (s.1, 8))) else (0, s)
theorem reader_one.calls (b : List Int) (Ab : Option Addr) (cb : Nat) (gr : Nat) (s : Nat × Int) (w00 w : World) (hC : Kd.C (Kd.int .u8) w00 Ab b.length b) (hb : ∀ x ∈ b, 0 ≤ x ∧ x ≤ 255) (hl : b.length ≤ 100000) (hb0 : Below w00.heap.size w00 w) (hg : w00.heap.size ≤ gr) (hR : Rd b Ab cb gr s w) :
    Calls Tryz.prog 24 #[.pointer (some ⟨gr, 0, none⟩)] w fun e w' => e = .returned (.int .i64 (oneR b s).1) ∧ Rd b Ab cb gr (oneR b s).2 w' ∧ Below w00.heap.size w00 w' ∧ Kept w w' (fun k => k = gr) := by
  have hu := Tryz.underlying96
  have hu2 := Tryz.underlying22
  obtain ⟨at_, e⟩ := s
  obtain ⟨hR, hat⟩ := hR
  have hat : at_ ≤ b.length := hat
  have hR : w.heap[gr]? = some (.cells #[.slice Ab b.length cb, .int .i64 at_, .int .i64 e] 96 (0, 0)) := hR
  have H := Aside0.mk hC
  have HB := Aside0.mk hb
  obtain ⟨x0, x1, x2⟩ := bx3 hR
  clear hC hb
  go_enter Tryz.func24, Tryz.ntmps24
  go_wp2
  by_cases ce : e = 0
  · by_cases ca : at_ < b.length
    · have hv := Aside0.mk (show oneR b (at_, e) = (b.getD at_ 0, (at_ + 1, 0)) by unfold oneR; rw [if_pos ce, if_pos ca])
      subst ce
      refine st_ 17 (fun w' => Below w.heap.size w w' ∧ w'.cell? (⟨gr, 0, none⟩) = some (.slice Ab b.length cb) ∧ w'.cell? (⟨gr, 1, none⟩) = some (.int .i64 at_) ∧ w'.cell? (⟨gr, 2, none⟩) = some (.int .i64 0)) [] reader_one.tab1 reader_one.bits1 ⟨below_drew1 bl0, x0, x1, x2⟩ (h := fun HT HW hHeld => ?_)
      repeat (first | refine pn_ HT (h := ?_) | refine tn_ HT HW hHeld (h := ?_) | refine zn_ HT (h := ?_))
      refine dn_ HT (h := ?_)
      clear HT HW hHeld x0 x1 x2
      have hR1 := blk_below hR (below_drew (Below.refl _ w))
      have hb1 := below_drew hb0
      have hs1 : w.drew.heap.size = w.heap.size := rfl
      have hk1 : Kept w w.drew (fun k => k = gr) := Kept.drew (Kept.refl _ _)
      clear hR hb0
      generalize w.drew = w1 at hR1 hb1 hs1 hk1 ⊢
      obtain ⟨x0, x1, x2⟩ := bx3 hR1
      go_wp2_with ((with_reducible refine gate_store (t := 3) (p := 34) (v := .tmp 32) rfl ?_); refine stB (w0 := w00) (base := w00.heap.size) (seg := [.int .i64 (at_ + 1)]) (cs' := [.slice Ab b.length cb, .int .i64 (at_ + 1), .int .i64 0]) hR1 hb1 hg (h := fun w2 hR2 hb2 hg2 => ?_))
      have hk2 := Kept.of_grown hg2 hk1 (fun k hk => Or.inl (Option.some.inj hk).symm)
      clear x0 x1 x2
      obtain ⟨x0, x1, x2⟩ := bx3 hR2
      obtain ⟨ad, q, rfl, hq, q0⟩ := elI (Kd.C_below H.out hb2) at_ ca
      refine st_ 13 (fun w' => Below w2.heap.size w2 w' ∧ w'.cell? (⟨gr, 0, none⟩) = some (.slice (some ad) b.length cb) ∧ w'.cell? (⟨gr, 1, none⟩) = some (.int .i64 (at_ + 1)) ∧ w'.cell? (ad.add at_) = some (.int .u8 q)) [] reader_one.tab6 reader_one.bits6 ⟨below_drew1 bl0, x0, x1, q0⟩ (h := fun HT HW hHeld => ?_)
      repeat (first | refine pn_ HT (h := ?_) | refine tn_ HT HW hHeld (h := ?_) | refine zn_ HT (h := ?_))
      rw [w64 (show (-9223372036854775808 : Int) ≤ (at_ : Int) by omega) (by omega)]
      have hqb := HB.out q (by rw [← hq.out]; exact List.getElem_mem _)
      repeat (first | refine pn_ HT (h := ?_) | refine tn_ HT HW hHeld (h := ?_) | refine zn_ HT (h := ?_))
      refine dn_ HT (h := ?_)
      rw [w64 (show (-9223372036854775808 : Int) ≤ q by omega) (by omega)]
      clear HT HW hHeld x0 x1 x2
      have hqd : b.getD at_ 0 = q := by rw [List.getD_eq_getElem?_getD, List.getElem?_eq_getElem ca, Option.getD_some, hq.out]
      have hR3 := blk_below hR2 (below_drew (Below.refl _ w2))
      have hb3 := below_drew hb2
      have hk3 := Kept.drew hk2
      generalize w2.drew = w3 at hR3 hb3 hk3 ⊢
      go_wp2
      go_ret
      exact ⟨by rw [hv.out, hqd]; rfl, by rw [hv.out]; exact ⟨hR3, ca⟩, hb3, hk3⟩
    · have hv := Aside0.mk (show oneR b (at_, e) = (0, (at_, 8)) by unfold oneR; rw [if_pos ce, if_neg ca])
      subst ce
      refine st_ 17 (fun w' => Below w.heap.size w w' ∧ w'.cell? (⟨gr, 0, none⟩) = some (.slice Ab b.length cb) ∧ w'.cell? (⟨gr, 1, none⟩) = some (.int .i64 at_) ∧ w'.cell? (⟨gr, 2, none⟩) = some (.int .i64 0)) [] reader_one.tab1 reader_one.bits1 ⟨below_drew1 bl0, x0, x1, x2⟩ (h := fun HT HW hHeld => ?_)
      repeat (first | refine pn_ HT (h := ?_) | refine tn_ HT HW hHeld (h := ?_) | refine zn_ HT (h := ?_))
      refine dn_ HT (h := ?_)
      clear HT HW hHeld x0 x1 x2
      have hR1 := blk_below hR (below_drew (Below.refl _ w))
      have hb1 := below_drew hb0
      have hk1 : Kept w w.drew (fun k => k = gr) := Kept.drew (Kept.refl _ _)
      clear hR hb0
      generalize w.drew = w1 at hR1 hb1 hk1 ⊢
      obtain ⟨x0, x1, x2⟩ := bx3 hR1
      go_wp2_with (first
        | ((with_reducible refine gate_store (t := 27) (p := 22) rfl ?_); refine stB (w0 := w00) (base := w00.heap.size) (seg := [.int .i64 8]) (cs' := [.slice Ab b.length cb, .int .i64 at_, .int .i64 8]) hR1 hb1 hg (h := fun w2 hR2 hb2 hg2 => ?_); (obtain ⟨y0, y1, y2⟩ := bx3 hR2)))
      go_ret
      exact ⟨by rw [hv.out]; rfl, by rw [hv.out]; exact ⟨hR2, hat⟩, hb2, Kept.of_grown hg2 hk1 (fun k hk => Or.inl (Option.some.inj hk).symm)⟩
  · have hv := Aside0.mk (show oneR b (at_, e) = (0, (at_, e)) by unfold oneR; rw [if_neg ce])
    have ce1 : (e == 0) = false := by simpa using ce
    have ce2 : (e != 0) = true := by simpa using ce
    clear ce
    refine st_ 17 (fun w' => Below w.heap.size w w' ∧ w'.cell? (⟨gr, 0, none⟩) = some (.slice Ab b.length cb) ∧ w'.cell? (⟨gr, 1, none⟩) = some (.int .i64 at_) ∧ w'.cell? (⟨gr, 2, none⟩) = some (.int .i64 e)) [] reader_one.tab1 reader_one.bits1 ⟨below_drew1 bl0, x0, x1, x2⟩ (h := fun HT HW hHeld => ?_)
    repeat (first | refine pn_ HT (h := ?_) | refine tn_ HT HW hHeld (h := ?_) | refine zn_ HT (h := ?_))
    refine dn_ HT (h := ?_)
    clear HT HW hHeld x0 x1 x2
    have hR1 := blk_below hR (below_drew (Below.refl _ w))
    have hb1 := below_drew hb0
    have hk1 : Kept w w.drew (fun k => k = gr) := Kept.drew (Kept.refl _ _)
    clear hR hb0
    generalize w.drew = w1 at hR1 hb1 hk1 ⊢
    obtain ⟨x0, x1, x2⟩ := bx3 hR1
    go_wp2
    go_ret
    exact ⟨by rw [hv.out]; rfl, by rw [hv.out]; exact ⟨hR1, hat⟩, hb1, hk1⟩
theorem Kept.same {w W W2 : World} {S : Nat → Prop} (h : Kept w W S) (k : Kept W W2 S) : Kept w W2 S := h.then_ k (fun _ hk => Or.inl hk)
theorem oneR_bd {b : List Int} (hb : ∀ x ∈ b, 0 ≤ x ∧ x ≤ 255) (s : Nat × Int) : 0 ≤ (oneR b s).1 ∧ (oneR b s).1 ≤ 255 := by
  unfold oneR
  split
  · split
    · rename_i h
      have := hb (b.getD s.1 0) (by rw [List.getD_eq_getElem?_getD, List.getElem?_eq_getElem h, Option.getD_some]; exact List.getElem_mem _)
      exact this
    · exact ⟨by show (0 : Int) ≤ 0; omega, by show (0 : Int) ≤ 255; omega⟩
  · exact ⟨by show (0 : Int) ≤ 0; omega, by show (0 : Int) ≤ 255; omega⟩
def rowG {α : Type} (take : Nat × Int → α × (Nat × Int)) : Nat → Nat × Int → List α → List α × (Nat × Int)
  | 0, s, out => (out, s)
  | n + 1, s, out => if s.2 = 0 then rowG take n (take s).2 (out ++ [(take s).1]) else (out, s)
def rowR {α : Type} (b : List Int) (take : Nat × Int → α × (Nat × Int)) (s : Nat × Int) : List α × (Nat × Int) := rowG take (oneR b s).1.toNat (oneR b s).2 []
def secD (b : List Int) (s : Nat × Int) : S89 × (Nat × Int) := (⟨(oneR b s).1, (oneR b (oneR b s).2).1, (oneR b (oneR b (oneR b s).2).2).1⟩, (oneR b (oneR b (oneR b s).2).2).2)
theorem reader_sec.calls (b : List Int) (Ab : Option Addr) (cb : Nat) (gr : Nat) (s : Nat × Int) (w00 w : World) (hC : Kd.C (Kd.int .u8) w00 Ab b.length b) (hb : ∀ x ∈ b, 0 ≤ x ∧ x ≤ 255) (hl : b.length ≤ 100000) (hb0 : Below w00.heap.size w00 w) (hg : w00.heap.size ≤ gr) (hR : Rd b Ab cb gr s w) :
    Calls Tryz.prog 83 #[.pointer (some ⟨gr, 0, none⟩)] w fun e w' => e = .returned (.agg #[.int .i64 (secD b s).1.f0, .int .i64 (secD b s).1.f1, .int .i64 (secD b s).1.f2]) ∧ Rd b Ab cb gr (secD b s).2 w' ∧ Below w00.heap.size w00 w' ∧ Kept w w' (fun k => k = gr) := by
  have hu := Tryz.underlying89
  have hgl := blk_lt hR.1
  have hX1 := blk_new w (.cells #[.int .i64 0, .int .i64 0, .int .i64 0] 89)
  have hR1 : Rd b Ab cb gr s (w.alloc (.cells #[.int .i64 0, .int .i64 0, .int .i64 0] 89)) := ⟨blk_al hR.1 _, hR.2⟩
  have hb1 := below_alloc hb0 (.cells #[.int .i64 0, .int .i64 0, .int .i64 0] 89)
  have hk1 : Kept w (w.alloc (.cells #[.int .i64 0, .int .i64 0, .int .i64 0] 89)) (fun k => k = gr) := Kept.alloc (Kept.refl _ _) _
  have hs0 := hb0.size
  go_enter Tryz.func83, Tryz.ntmps83
  go_wp2_with fail
  refine (reader_one.calls b Ab cb gr s w00 _ hC hb hl hb1 hg hR1).mono ?_; rintro _ w2 ⟨rfl, hR2, hb2, hk2⟩
  have hX2 := blk_kept hX1 hk2 (by omega)
  replace hk2 := Kept.same hk1 hk2
  have hv1 : oneR b s = oneR b s := rfl
  generalize hr1 : oneR b s = r1 at hR2 ⊢
  replace hr1 := Aside0.mk hr1
  clear hX1 hR1 hb1 hk1 hv1
  go_wp2_with fail
  refine (reader_one.calls b Ab cb gr r1.2 w00 _ hC hb hl hb2 hg hR2).mono ?_; rintro _ w3 ⟨rfl, hR3, hb3, hk3⟩
  have hX3 := blk_kept hX2 hk3 (by omega)
  replace hk3 := Kept.same hk2 hk3
  generalize hr2 : oneR b r1.2 = r2 at hR3 ⊢
  replace hr2 := Aside0.mk hr2
  clear hX2 hR2 hb2 hk2
  go_wp2_with fail
  refine (reader_one.calls b Ab cb gr r2.2 w00 _ hC hb hl hb3 hg hR3).mono ?_; rintro _ w4 ⟨rfl, hR4, hb4, hk4⟩
  have hX4 := blk_kept hX3 hk4 (by omega)
  replace hk4 := Kept.same hk3 hk4
  generalize hr3 : oneR b r2.2 = r3 at hR4 ⊢
  replace hr3 := Aside0.mk hr3
  clear hX3 hR3 hb3 hk3
  have hv := Aside0.mk (show secD b s = (⟨r1.1, r2.1, r3.1⟩, r3.2) by unfold secD; rw [hr1.out, hr2.out, hr3.out])
  clear hr1 hr2 hr3
  generalize r1.1 = a1 at hv ⊢
  generalize r2.1 = a2 at hv ⊢
  generalize r3.1 = a3 at hv ⊢
  go_wp2_with ((with_reducible refine gate_store (t := 89) (p := 2) rfl ?_); refine stB (w0 := w00) (base := w00.heap.size) (seg := [.int .i64 a1, .int .i64 a2, .int .i64 a3]) (cs' := [.int .i64 a1, .int .i64 a2, .int .i64 a3]) hX4 hb4 hs0 (h := fun wy hBy hby hgy => ?_))
  (try simp only [Exit.inBlock, Exit.then])
  refine bodyPost_ret (results_single rfl (.cell _ 89 _ (0, 0) _ rfl hBy Tryz.underlying89 rfl (by kernel_rfl) .nil)) rfl ?_
  exact ⟨by rw [hv.out], by rw [hv.out]; exact ⟨blk_grown hR4.1 hgy (fun he => by have := Option.some.inj he; omega), hR4.2⟩, hby, Kept.of_grown hgy hk4 (fun k hk => Or.inr (by have := Option.some.inj hk; omega))⟩
def prtD (b : List Int) (s : Nat × Int) : S91 × (Nat × Int) := (⟨(oneR b s).1, (oneR b (oneR b s).2).1, (oneR b (oneR b (oneR b s).2).2).1⟩, (oneR b (oneR b (oneR b s).2).2).2)
theorem reader_prt.calls (b : List Int) (Ab : Option Addr) (cb : Nat) (gr : Nat) (s : Nat × Int) (w00 w : World) (hC : Kd.C (Kd.int .u8) w00 Ab b.length b) (hb : ∀ x ∈ b, 0 ≤ x ∧ x ≤ 255) (hl : b.length ≤ 100000) (hb0 : Below w00.heap.size w00 w) (hg : w00.heap.size ≤ gr) (hR : Rd b Ab cb gr s w) :
    Calls Tryz.prog 28 #[.pointer (some ⟨gr, 0, none⟩)] w fun e w' => e = .returned (.agg #[.int .i64 (prtD b s).1.f0, .int .i64 (prtD b s).1.f1, .int .i64 (prtD b s).1.f2]) ∧ Rd b Ab cb gr (prtD b s).2 w' ∧ Below w00.heap.size w00 w' ∧ Kept w w' (fun k => k = gr) := by
  have hu := Tryz.underlying91
  have hgl := blk_lt hR.1
  have hX1 := blk_new w (.cells #[.int .i64 0, .int .i64 0, .int .i64 0] 91)
  have hR1 : Rd b Ab cb gr s (w.alloc (.cells #[.int .i64 0, .int .i64 0, .int .i64 0] 91)) := ⟨blk_al hR.1 _, hR.2⟩
  have hb1 := below_alloc hb0 (.cells #[.int .i64 0, .int .i64 0, .int .i64 0] 91)
  have hk1 : Kept w (w.alloc (.cells #[.int .i64 0, .int .i64 0, .int .i64 0] 91)) (fun k => k = gr) := Kept.alloc (Kept.refl _ _) _
  have hs0 := hb0.size
  go_enter Tryz.func28, Tryz.ntmps28
  go_wp2_with fail
  refine (reader_one.calls b Ab cb gr s w00 _ hC hb hl hb1 hg hR1).mono ?_; rintro _ w2 ⟨rfl, hR2, hb2, hk2⟩
  have hX2 := blk_kept hX1 hk2 (by omega)
  replace hk2 := Kept.same hk1 hk2
  have hv1 : oneR b s = oneR b s := rfl
  generalize hr1 : oneR b s = r1 at hR2 ⊢
  replace hr1 := Aside0.mk hr1
  clear hX1 hR1 hb1 hk1 hv1
  go_wp2_with fail
  refine (reader_one.calls b Ab cb gr r1.2 w00 _ hC hb hl hb2 hg hR2).mono ?_; rintro _ w3 ⟨rfl, hR3, hb3, hk3⟩
  have hX3 := blk_kept hX2 hk3 (by omega)
  replace hk3 := Kept.same hk2 hk3
  generalize hr2 : oneR b r1.2 = r2 at hR3 ⊢
  replace hr2 := Aside0.mk hr2
  clear hX2 hR2 hb2 hk2
  go_wp2_with fail
  refine (reader_one.calls b Ab cb gr r2.2 w00 _ hC hb hl hb3 hg hR3).mono ?_; rintro _ w4 ⟨rfl, hR4, hb4, hk4⟩
  have hX4 := blk_kept hX3 hk4 (by omega)
  replace hk4 := Kept.same hk3 hk4
  generalize hr3 : oneR b r2.2 = r3 at hR4 ⊢
  replace hr3 := Aside0.mk hr3
  clear hX3 hR3 hb3 hk3
  have hv := Aside0.mk (show prtD b s = (⟨r1.1, r2.1, r3.1⟩, r3.2) by unfold prtD; rw [hr1.out, hr2.out, hr3.out])
  clear hr1 hr2 hr3
  generalize r1.1 = a1 at hv ⊢
  generalize r2.1 = a2 at hv ⊢
  generalize r3.1 = a3 at hv ⊢
  go_wp2_with ((with_reducible refine gate_store (t := 91) (p := 2) rfl ?_); refine stB (w0 := w00) (base := w00.heap.size) (seg := [.int .i64 a1, .int .i64 a2, .int .i64 a3]) (cs' := [.int .i64 a1, .int .i64 a2, .int .i64 a3]) hX4 hb4 hs0 (h := fun wy hBy hby hgy => ?_))
  (try simp only [Exit.inBlock, Exit.then])
  refine bodyPost_ret (results_single rfl (.cell _ 91 _ (0, 0) _ rfl hBy Tryz.underlying91 rfl (by kernel_rfl) .nil)) rfl ?_
  exact ⟨by rw [hv.out], by rw [hv.out]; exact ⟨blk_grown hR4.1 hgy (fun he => by have := Option.some.inj he; omega), hR4.2⟩, hby, Kept.of_grown hgy hk4 (fun k hk => Or.inr (by have := Option.some.inj hk; omega))⟩
theorem row_sec.calls (b : List Int) (Ab : Option Addr) (cb : Nat) (gr : Nat) (s : Nat × Int) (w00 w : World) (hC : Kd.C (Kd.int .u8) w00 Ab b.length b) (hb : ∀ x ∈ b, 0 ≤ x ∧ x ≤ 255) (hl : b.length ≤ 100000) (hb0 : Below w00.heap.size w00 w) (hg : w00.heap.size ≤ gr) (hR : Rd b Ab cb gr s w) :
    Calls Tryz.prog 82 #[.pointer (some ⟨gr, 0, none⟩), .func (.func 83) #[.pointer (some ⟨gr, 0, none⟩)] #[]] w fun e w' => ∃ v, e = .returned v ∧ Kd.N k89 89 w' w.heap.size (fun k => w.heap.size ≤ k) v (rowR b (secD b) s).1 ∧ Rd b Ab cb gr (rowR b (secD b) s).2 w' ∧ Below w00.heap.size w00 w' ∧ Kept w w' (fun k => k = gr) := by
  have hu := Tryz.underlying42
  have HC := Aside0.mk hC
  have HB := Aside0.mk hb
  have hgl := blk_lt hR.1
  clear hC hb
  go_enter Tryz.func82, Tryz.ntmps82
  go_wp2_with fail
  refine (reader_one.calls b Ab cb gr s w00 _ HC.out HB.out hl hb0 hg hR).mono ?_; rintro _ w2 ⟨rfl, hR2, hb2, hk2⟩
  have hv := Aside0.mk (show rowR b (secD b) s = rowG (secD b) (oneR b s).1.toNat (oneR b s).2 [] from rfl)
  have ho := oneR_bd HB.out s
  generalize (oneR b s).2 = s2 at hR2 hv ⊢
  generalize (oneR b s).1 = a at hv ho ⊢
  obtain ⟨m, rfl⟩ : ∃ m : Nat, a = m := ⟨a.toNat, by omega⟩
  rw [Int.toNat_natCast] at hv
  have hm : m ≤ 255 := by omega
  have hR2 := Aside0.mk hR2
  have hk2 := Aside0.mk hk2
  have hb0s := hb0.size
  have hws : w.heap.size ≤ w.heap.size := Nat.le_refl _
  clear ho hb0 hR
  go_wp2
  go_loopg [5, 6] m (fun k v5 v6 wr => ∃ (n : Nat) (s1 : Nat × Int) (out : List S89), n = k ∧ v6 = .int .i64 n ∧ Aside0 (rowG (secD b) n s1 out = rowR b (secD b) s) ∧ Aside0 (Kd.N k89 89 wr w.heap.size (fun k => w.heap.size ≤ k) v5 out) ∧ Aside0 (out.length + n ≤ m) ∧ Aside0 (Rd b Ab cb gr s1 wr) ∧ Aside0 (Kept w wr (fun k => k = gr)) ∧ Below w00.heap.size w00 wr)
  case atStart => exact ⟨m, s2, [], rfl, rfl, ⟨hv.out.symm⟩, ⟨Kd.N_nil _ _ _ _ _⟩, ⟨by simp⟩, hR2, hk2, hb2⟩
  case round =>
    clear hv hR2 hk2 hb2
    obtain ⟨n, s1, out, hn, rfl, ha, hN, hol, hR, hk, hbr⟩ := hrel
    obtain ⟨x0, x1, x2⟩ := bx3 hR.out.1
    cases n with
    | zero =>
      have hv := Aside0.mk (show rowR b (secD b) s = (out, s1) from ha.out.symm)
      clear ha
      go_wp2
      go_ret
      exact ⟨_, rfl, by rw [hv.out]; exact hN.out, by rw [hv.out]; exact hR.out, hbr, hk.out⟩
    | succ n =>
      have hn2 : ((n + 1 : Nat) : Int) = (n : Int) + 1 := by omega
      have hn3 : n ≤ 255 := by have := hol.out; omega
      obtain ⟨a1, e1⟩ := s1
      have x2 : wr.cell? ⟨gr, 2, none⟩ = some (.int .i64 e1) := x2
      by_cases ce : e1 = 0
      · have hab := Aside0.mk (show rowG (secD b) n (secD b (a1, e1)).2 (out ++ [(secD b (a1, e1)).1]) = rowR b (secD b) s by rw [← ha.out]; unfold rowG; rw [if_pos ce]; cases n <;> rfl)
        have hs1 := hk.out.1
        subst ce
        clear ha
        go_wp2_with fail
        refine (reader_sec.calls b Ab cb gr (a1, 0) w00 _ HC.out HB.out hl hbr hg hR.out).mono ?_; rintro _ w3 ⟨rfl, hR3, hb3, hk3⟩
        have hN3 := Aside0.mk (Kd.N_kept hN.out hk3 (fun k hk1 he => by omega))
        have hk4 := Aside0.mk (Kept.same hk.out hk3)
        have hs3 := hk4.out.1
        have hs4 := hk3.1
        have hNr := hN
        clear x0 x1 x2 hN hR hk hk3
        have hR3 := Aside0.mk hR3
        generalize (secD b (a1, 0)).2 = s3 at hR3 hab ⊢
        generalize (secD b (a1, 0)).1 = x at *
        go_wp2_with ((with_reducible refine gate_builtin (b := .append) (xs := #[.tmp 20, .tmp 23]) rfl ?_); at_builtin; refine apN row89 (w0 := w3) (base := w.heap.size) (cs := [.int .i64 x.f0, .int .i64 x.f1, .int .i64 x.f2]) (p := x) (okp := fun k => wr.heap.size ≤ k) hN3.out (k89_mkF _ _ x) (fun k hk => ⟨by omega, fun he => by have := Kd.N_lt hNr.out k he.symm; omega⟩) (fun k hk => by omega) (Below.refl _ _) hs3 (by have := hol.out; omega) (h := fun v8 w8 hN8 hb8 hg8 hat8 => ?_))
        have hR8 := Aside0.mk (show Rd b Ab cb gr s3 w8 from ⟨blk_grown hR3.out.1 hg8 (fun he => by have := hN3.out.1 gr he.symm; omega), hR3.out.2⟩)
        have hk8 := Aside0.mk (Kept.of_grown hg8 hk4.out (fun k hk => Or.inr (hN3.out.1 k hk)))
        have hb9 := Below.trans hb3 (Below.mono hb8 (Nat.le_trans hb0s hws))
        go_roundg n
        case measure => omega
        case rel => exact ⟨n, s3, out ++ [x], by omega, by go_num, hab, ⟨hN8⟩, ⟨by have := hol.out; rw [List.length_append]; show out.length + 1 + n ≤ m; omega⟩, hR8, hk8, hb9⟩
      · have hv := Aside0.mk (show rowR b (secD b) s = (out, (a1, e1)) by rw [← ha.out]; unfold rowG; rw [if_neg ce])
        have ce1 : (e1 == 0) = false := by simpa using ce
        clear ha ce
        go_wp2
        go_ret
        exact ⟨_, rfl, by rw [hv.out]; exact hN.out, by rw [hv.out]; exact hR.out, hbr, hk.out⟩
theorem row_prt.calls (b : List Int) (Ab : Option Addr) (cb : Nat) (gr : Nat) (s : Nat × Int) (w00 w : World) (hC : Kd.C (Kd.int .u8) w00 Ab b.length b) (hb : ∀ x ∈ b, 0 ≤ x ∧ x ≤ 255) (hl : b.length ≤ 100000) (hb0 : Below w00.heap.size w00 w) (hg : w00.heap.size ≤ gr) (hR : Rd b Ab cb gr s w) :
    Calls Tryz.prog 27 #[.pointer (some ⟨gr, 0, none⟩), .func (.func 28) #[.pointer (some ⟨gr, 0, none⟩)] #[]] w fun e w' => ∃ v, e = .returned v ∧ Kd.N k91 91 w' w.heap.size (fun k => w.heap.size ≤ k) v (rowR b (prtD b) s).1 ∧ Rd b Ab cb gr (rowR b (prtD b) s).2 w' ∧ Below w00.heap.size w00 w' ∧ Kept w w' (fun k => k = gr) := by
  have hu := Tryz.underlying51
  have HC := Aside0.mk hC
  have HB := Aside0.mk hb
  have hgl := blk_lt hR.1
  clear hC hb
  go_enter Tryz.func27, Tryz.ntmps27
  go_wp2_with fail
  refine (reader_one.calls b Ab cb gr s w00 _ HC.out HB.out hl hb0 hg hR).mono ?_; rintro _ w2 ⟨rfl, hR2, hb2, hk2⟩
  have hv := Aside0.mk (show rowR b (prtD b) s = rowG (prtD b) (oneR b s).1.toNat (oneR b s).2 [] from rfl)
  have ho := oneR_bd HB.out s
  generalize (oneR b s).2 = s2 at hR2 hv ⊢
  generalize (oneR b s).1 = a at hv ho ⊢
  obtain ⟨m, rfl⟩ : ∃ m : Nat, a = m := ⟨a.toNat, by omega⟩
  rw [Int.toNat_natCast] at hv
  have hm : m ≤ 255 := by omega
  have hR2 := Aside0.mk hR2
  have hk2 := Aside0.mk hk2
  have hb0s := hb0.size
  have hws : w.heap.size ≤ w.heap.size := Nat.le_refl _
  clear ho hb0 hR
  go_wp2
  go_loopg [5, 6] m (fun k v5 v6 wr => ∃ (n : Nat) (s1 : Nat × Int) (out : List S91), n = k ∧ v6 = .int .i64 n ∧ Aside0 (rowG (prtD b) n s1 out = rowR b (prtD b) s) ∧ Aside0 (Kd.N k91 91 wr w.heap.size (fun k => w.heap.size ≤ k) v5 out) ∧ Aside0 (out.length + n ≤ m) ∧ Aside0 (Rd b Ab cb gr s1 wr) ∧ Aside0 (Kept w wr (fun k => k = gr)) ∧ Below w00.heap.size w00 wr)
  case atStart => exact ⟨m, s2, [], rfl, rfl, ⟨hv.out.symm⟩, ⟨Kd.N_nil _ _ _ _ _⟩, ⟨by simp⟩, hR2, hk2, hb2⟩
  case round =>
    clear hv hR2 hk2 hb2
    obtain ⟨n, s1, out, hn, rfl, ha, hN, hol, hR, hk, hbr⟩ := hrel
    obtain ⟨x0, x1, x2⟩ := bx3 hR.out.1
    cases n with
    | zero =>
      have hv := Aside0.mk (show rowR b (prtD b) s = (out, s1) from ha.out.symm)
      clear ha
      go_wp2
      go_ret
      exact ⟨_, rfl, by rw [hv.out]; exact hN.out, by rw [hv.out]; exact hR.out, hbr, hk.out⟩
    | succ n =>
      have hn2 : ((n + 1 : Nat) : Int) = (n : Int) + 1 := by omega
      have hn3 : n ≤ 255 := by have := hol.out; omega
      obtain ⟨a1, e1⟩ := s1
      have x2 : wr.cell? ⟨gr, 2, none⟩ = some (.int .i64 e1) := x2
      by_cases ce : e1 = 0
      · have hab := Aside0.mk (show rowG (prtD b) n (prtD b (a1, e1)).2 (out ++ [(prtD b (a1, e1)).1]) = rowR b (prtD b) s by rw [← ha.out]; unfold rowG; rw [if_pos ce]; cases n <;> rfl)
        have hs1 := hk.out.1
        subst ce
        clear ha
        go_wp2_with fail
        refine (reader_prt.calls b Ab cb gr (a1, 0) w00 _ HC.out HB.out hl hbr hg hR.out).mono ?_; rintro _ w3 ⟨rfl, hR3, hb3, hk3⟩
        have hN3 := Aside0.mk (Kd.N_kept hN.out hk3 (fun k hk1 he => by omega))
        have hk4 := Aside0.mk (Kept.same hk.out hk3)
        have hs3 := hk4.out.1
        have hs4 := hk3.1
        have hNr := hN
        clear x0 x1 x2 hN hR hk hk3
        have hR3 := Aside0.mk hR3
        generalize (prtD b (a1, 0)).2 = s3 at hR3 hab ⊢
        generalize (prtD b (a1, 0)).1 = x at *
        go_wp2_with ((with_reducible refine gate_builtin (b := .append) (xs := #[.tmp 20, .tmp 23]) rfl ?_); at_builtin; refine apN row91 (w0 := w3) (base := w.heap.size) (cs := [.int .i64 x.f0, .int .i64 x.f1, .int .i64 x.f2]) (p := x) (okp := fun k => wr.heap.size ≤ k) hN3.out (k91_mkF _ _ x) (fun k hk => ⟨by omega, fun he => by have := Kd.N_lt hNr.out k he.symm; omega⟩) (fun k hk => by omega) (Below.refl _ _) hs3 (by have := hol.out; omega) (h := fun v8 w8 hN8 hb8 hg8 hat8 => ?_))
        have hR8 := Aside0.mk (show Rd b Ab cb gr s3 w8 from ⟨blk_grown hR3.out.1 hg8 (fun he => by have := hN3.out.1 gr he.symm; omega), hR3.out.2⟩)
        have hk8 := Aside0.mk (Kept.of_grown hg8 hk4.out (fun k hk => Or.inr (hN3.out.1 k hk)))
        have hb9 := Below.trans hb3 (Below.mono hb8 (Nat.le_trans hb0s hws))
        go_roundg n
        case measure => omega
        case rel => exact ⟨n, s3, out ++ [x], by omega, by go_num, hab, ⟨hN8⟩, ⟨by have := hol.out; rw [List.length_append]; show out.length + 1 + n ≤ m; omega⟩, hR8, hk8, hb9⟩
      · have hv := Aside0.mk (show rowR b (prtD b) s = (out, (a1, e1)) by rw [← ha.out]; unfold rowG; rw [if_neg ce])
        have ce1 : (e1 == 0) = false := by simpa using ce
        clear ha ce
        go_wp2
        go_ret
        exact ⟨_, rfl, by rw [hv.out]; exact hN.out, by rw [hv.out]; exact hR.out, hbr, hk.out⟩
def taskD (b : List Int) (s : Nat × Int) : S44 × (Nat × Int) := (⟨(oneR b s).1, (oneR b (oneR b s).2).1, (oneR b (oneR b (oneR b s).2).2).1, (rowR b (secD b) (oneR b (oneR b (oneR b s).2).2).2).1⟩, (rowR b (secD b) (oneR b (oneR b (oneR b s).2).2).2).2)
theorem reader_task.calls (b : List Int) (Ab : Option Addr) (cb : Nat) (gr : Nat) (s : Nat × Int) (w00 w : World) (hC : Kd.C (Kd.int .u8) w00 Ab b.length b) (hb : ∀ x ∈ b, 0 ≤ x ∧ x ≤ 255) (hl : b.length ≤ 100000) (hb0 : Below w00.heap.size w00 w) (hg : w00.heap.size ≤ gr) (hR : Rd b Ab cb gr s w) :
    Calls Tryz.prog 44 #[.pointer (some ⟨gr, 0, none⟩)] w fun e w' => ∃ cs, e = .returned (.agg cs.toArray) ∧ Kd.FK k44 w' (fun k => w.heap.size ≤ k) (taskD b s).1 cs ∧ Rd b Ab cb gr (taskD b s).2 w' ∧ Below w00.heap.size w00 w' ∧ Kept w w' (fun k => k = gr) := by
  have hu := Tryz.underlying44
  have hu2 := Tryz.underlying85
  have hgl := blk_lt hR.1
  have hX1 := blk_new w (.cells #[.int .i64 0, .int .i64 0, .int .i64 0, .slice none 0 0] 44)
  have hR1 : Rd b Ab cb gr s (w.alloc (.cells #[.int .i64 0, .int .i64 0, .int .i64 0, .slice none 0 0] 44)) := ⟨blk_al hR.1 _, hR.2⟩
  have hb1 := below_alloc hb0 (.cells #[.int .i64 0, .int .i64 0, .int .i64 0, .slice none 0 0] 44)
  have hk1 : Kept w (w.alloc (.cells #[.int .i64 0, .int .i64 0, .int .i64 0, .slice none 0 0] 44)) (fun k => k = gr) := Kept.alloc (Kept.refl _ _) _
  have hz1 : (w.alloc (.cells #[.int .i64 0, .int .i64 0, .int .i64 0, .slice none 0 0] 44)).heap.size = w.heap.size + 1 := alsz
  have hs0 := hb0.size
  go_enter Tryz.func44, Tryz.ntmps44
  go_wp2_with fail
  refine (reader_one.calls b Ab cb gr s w00 _ hC hb hl hb1 hg hR1).mono ?_; rintro _ w2 ⟨rfl, hR2, hb2, hk2⟩
  have hX2 := blk_kept hX1 hk2 (by omega)
  have hz2 := hk2.1
  rw [hz1] at hz2
  replace hk2 := Kept.same hk1 hk2
  generalize hr1 : oneR b s = r1 at hR2 ⊢
  replace hr1 := Aside0.mk hr1
  clear hX1 hR1 hb1 hk1
  go_wp2_with fail
  refine (reader_one.calls b Ab cb gr r1.2 w00 _ hC hb hl hb2 hg hR2).mono ?_; rintro _ w3 ⟨rfl, hR3, hb3, hk3⟩
  have hX3 := blk_kept hX2 hk3 (by omega)
  have hz3 := hk3.1
  skip
  replace hk3 := Kept.same hk2 hk3
  generalize hr2 : oneR b r1.2 = r2 at hR3 ⊢
  replace hr2 := Aside0.mk hr2
  clear hX2 hR2 hb2 hk2
  go_wp2_with fail
  refine (reader_one.calls b Ab cb gr r2.2 w00 _ hC hb hl hb3 hg hR3).mono ?_; rintro _ w4 ⟨rfl, hR4, hb4, hk4⟩
  have hX4 := blk_kept hX3 hk4 (by omega)
  have hz4 := hk4.1
  skip
  replace hk4 := Kept.same hk3 hk4
  generalize hr3 : oneR b r2.2 = r3 at hR4 ⊢
  replace hr3 := Aside0.mk hr3
  clear hX3 hR3 hb3 hk3
  go_wp2_with fail
  refine (row_sec.calls b Ab cb gr r3.2 w00 _ hC hb hl hb4 hg hR4).mono ?_; rintro _ w5 ⟨v9, rfl, hN5, hR5, hb5, hk5⟩
  have hX5 := blk_kept hX4 hk5 (by omega)
  replace hk5 := Kept.same hk4 hk5
  have hv := Aside0.mk (show taskD b s = (⟨r1.1, r2.1, r3.1, (rowR b (secD b) r3.2).1⟩, (rowR b (secD b) r3.2).2) by unfold taskD; rw [hr1.out, hr2.out, hr3.out])
  clear hr1 hr2 hr3 hX4 hR4 hb4 hk4
  obtain ⟨A9, c9, rfl⟩ := Kd.N_slice hN5
  have HN := Aside0.mk hN5
  clear hN5
  generalize (rowR b (secD b) r3.2).1 = xs at hv HN ⊢
  generalize (rowR b (secD b) r3.2).2 = s9 at hv hR5 ⊢
  generalize r1.1 = a1 at hv ⊢
  generalize r2.1 = a2 at hv ⊢
  generalize r3.1 = a3 at hv ⊢
  go_wp2_with ((with_reducible refine gate_store (t := 44) (p := 2) rfl ?_); refine stB (w0 := w00) (base := w00.heap.size) (seg := [.int .i64 a1, .int .i64 a2, .int .i64 a3, .slice A9 xs.length c9]) (cs' := [.int .i64 a1, .int .i64 a2, .int .i64 a3, .slice A9 xs.length c9]) hX5 hb5 hs0 (h := fun wy hBy hby hgy => ?_))
  (try simp only [Exit.inBlock, Exit.then])
  refine bodyPost_ret (results_single rfl (.cell _ 44 _ (0, 0) _ rfl hBy Tryz.underlying44 rfl (by kernel_rfl) .nil)) rfl ?_
  have hNy := Kd.N_grown HN.out hgy (fun k hk he => by have := Option.some.inj he; omega)
  exact ⟨_, rfl, by rw [hv.out]; exact k44_mkF wy _ (⟨a1, a2, a3, xs⟩ : S44) (Kd.N_reads' hNy).2.1 (Kd.F_mono (Kd.N_F hNy) (fun k hk => by omega)), by rw [hv.out]; exact ⟨blk_grown hR5.1 hgy (fun he => by have := Option.some.inj he; omega), hR5.2⟩, hby, Kept.of_grown hgy hk5 (fun k hk => Or.inr (by have := Option.some.inj hk; omega))⟩
theorem row_task.calls (b : List Int) (Ab : Option Addr) (cb : Nat) (gr : Nat) (s : Nat × Int) (w00 w : World) (hC : Kd.C (Kd.int .u8) w00 Ab b.length b) (hb : ∀ x ∈ b, 0 ≤ x ∧ x ≤ 255) (hl : b.length ≤ 100000) (hb0 : Below w00.heap.size w00 w) (hg : w00.heap.size ≤ gr) (hR : Rd b Ab cb gr s w) :
    Calls Tryz.prog 43 #[.pointer (some ⟨gr, 0, none⟩), .func (.func 44) #[.pointer (some ⟨gr, 0, none⟩)] #[]] w fun e w' => ∃ v, e = .returned v ∧ Kd.N k44 44 w' w.heap.size (fun k => w.heap.size ≤ k) v (rowR b (taskD b) s).1 ∧ Rd b Ab cb gr (rowR b (taskD b) s).2 w' ∧ Below w00.heap.size w00 w' ∧ Kept w w' (fun k => k = gr) := by
  have hu := Tryz.underlying76
  have HC := Aside0.mk hC
  have HB := Aside0.mk hb
  have hgl := blk_lt hR.1
  clear hC hb
  go_enter Tryz.func43, Tryz.ntmps43
  go_wp2_with fail
  refine (reader_one.calls b Ab cb gr s w00 _ HC.out HB.out hl hb0 hg hR).mono ?_; rintro _ w2 ⟨rfl, hR2, hb2, hk2⟩
  have hv := Aside0.mk (show rowR b (taskD b) s = rowG (taskD b) (oneR b s).1.toNat (oneR b s).2 [] from rfl)
  have ho := oneR_bd HB.out s
  generalize (oneR b s).2 = s2 at hR2 hv ⊢
  generalize (oneR b s).1 = a at hv ho ⊢
  obtain ⟨m, rfl⟩ : ∃ m : Nat, a = m := ⟨a.toNat, by omega⟩
  rw [Int.toNat_natCast] at hv
  have hm : m ≤ 255 := by omega
  have hR2 := Aside0.mk hR2
  have hk2 := Aside0.mk hk2
  have hb0s := hb0.size
  have hws : w.heap.size ≤ w.heap.size := Nat.le_refl _
  clear ho hb0 hR
  go_wp2
  go_loopg [5, 6] m (fun k v5 v6 wr => ∃ (n : Nat) (s1 : Nat × Int) (out : List S44), n = k ∧ v6 = .int .i64 n ∧ Aside0 (rowG (taskD b) n s1 out = rowR b (taskD b) s) ∧ Aside0 (Kd.N k44 44 wr w.heap.size (fun k => w.heap.size ≤ k) v5 out) ∧ Aside0 (out.length + n ≤ m) ∧ Aside0 (Rd b Ab cb gr s1 wr) ∧ Aside0 (Kept w wr (fun k => k = gr)) ∧ Below w00.heap.size w00 wr)
  case atStart => exact ⟨m, s2, [], rfl, rfl, ⟨hv.out.symm⟩, ⟨Kd.N_nil _ _ _ _ _⟩, ⟨by simp⟩, hR2, hk2, hb2⟩
  case round =>
    clear hv hR2 hk2 hb2
    obtain ⟨n, s1, out, hn, rfl, ha, hN, hol, hR, hk, hbr⟩ := hrel
    obtain ⟨x0, x1, x2⟩ := bx3 hR.out.1
    cases n with
    | zero =>
      have hv := Aside0.mk (show rowR b (taskD b) s = (out, s1) from ha.out.symm)
      clear ha
      go_wp2
      go_ret
      exact ⟨_, rfl, by rw [hv.out]; exact hN.out, by rw [hv.out]; exact hR.out, hbr, hk.out⟩
    | succ n =>
      have hn2 : ((n + 1 : Nat) : Int) = (n : Int) + 1 := by omega
      have hn3 : n ≤ 255 := by have := hol.out; omega
      obtain ⟨a1, e1⟩ := s1
      have x2 : wr.cell? ⟨gr, 2, none⟩ = some (.int .i64 e1) := x2
      by_cases ce : e1 = 0
      · have hab := Aside0.mk (show rowG (taskD b) n (taskD b (a1, e1)).2 (out ++ [(taskD b (a1, e1)).1]) = rowR b (taskD b) s by rw [← ha.out]; unfold rowG; rw [if_pos ce]; cases n <;> rfl)
        have hs1 := hk.out.1
        subst ce
        clear ha
        go_wp2_with fail
        refine (reader_task.calls b Ab cb gr (a1, 0) w00 _ HC.out HB.out hl hbr hg hR.out).mono ?_; rintro _ w3 ⟨cs3, rfl, hF3, hR3, hb3, hk3⟩; obtain ⟨A3, c3, rfl, l3, g3⟩ := k44_openF hF3; have G3 := Aside0.mk g3; clear hF3 g3
        have hN3 := Aside0.mk (Kd.N_kept hN.out hk3 (fun k hk1 he => by omega))
        have hk4 := Aside0.mk (Kept.same hk.out hk3)
        have hs3 := hk4.out.1
        have hs4 := hk3.1
        have hNr := hN
        clear x0 x1 x2 hN hR hk hk3
        have hR3 := Aside0.mk hR3
        generalize (taskD b (a1, 0)).2 = s3 at hR3 hab ⊢
        generalize (taskD b (a1, 0)).1 = x at *
        go_wp2_with ((with_reducible refine gate_builtin (b := .append) (xs := #[.tmp 20, .tmp 23]) rfl ?_); at_builtin; refine apN row44 (w0 := w3) (base := w.heap.size) (cs := [.int .i64 x.f0, .int .i64 x.f1, .int .i64 x.f2, .slice A3 x.f3.length c3]) (p := x) (okp := fun k => wr.heap.size ≤ k) hN3.out (k44_mkF _ _ x l3 G3.out) (fun k hk => ⟨by omega, fun he => by have := Kd.N_lt hNr.out k he.symm; omega⟩) (fun k hk => by omega) (Below.refl _ _) hs3 (by have := hol.out; omega) (h := fun v8 w8 hN8 hb8 hg8 hat8 => ?_))
        have hR8 := Aside0.mk (show Rd b Ab cb gr s3 w8 from ⟨blk_grown hR3.out.1 hg8 (fun he => by have := hN3.out.1 gr he.symm; omega), hR3.out.2⟩)
        have hk8 := Aside0.mk (Kept.of_grown hg8 hk4.out (fun k hk => Or.inr (hN3.out.1 k hk)))
        have hb9 := Below.trans hb3 (Below.mono hb8 (Nat.le_trans hb0s hws))
        go_roundg n
        case measure => omega
        case rel => exact ⟨n, s3, out ++ [x], by omega, by go_num, hab, ⟨hN8⟩, ⟨by have := hol.out; rw [List.length_append]; show out.length + 1 + n ≤ m; omega⟩, hR8, hk8, hb9⟩
      · have hv := Aside0.mk (show rowR b (taskD b) s = (out, (a1, e1)) by rw [← ha.out]; unfold rowG; rw [if_neg ce])
        have ce1 : (e1 == 0) = false := by simpa using ce
        clear ha ce
        go_wp2
        go_ret
        exact ⟨_, rfl, by rw [hv.out]; exact hN.out, by rw [hv.out]; exact hR.out, hbr, hk.out⟩
def partD (b : List Int) (s : Nat × Int) : S87 × (Nat × Int) := (⟨⟨(oneR b s).1, (oneR b (oneR b s).2).1⟩, (rowR b (taskD b) (oneR b (oneR b s).2).2).1⟩, (rowR b (taskD b) (oneR b (oneR b s).2).2).2)
theorem reader_part.calls (b : List Int) (Ab : Option Addr) (cb : Nat) (gr : Nat) (s : Nat × Int) (w00 w : World) (hC : Kd.C (Kd.int .u8) w00 Ab b.length b) (hb : ∀ x ∈ b, 0 ≤ x ∧ x ≤ 255) (hl : b.length ≤ 100000) (hb0 : Below w00.heap.size w00 w) (hg : w00.heap.size ≤ gr) (hR : Rd b Ab cb gr s w) :
    Calls Tryz.prog 26 #[.pointer (some ⟨gr, 0, none⟩)] w fun e w' => ∃ cs, e = .returned (.agg cs.toArray) ∧ Kd.FK k87 w' (fun k => w.heap.size ≤ k) (partD b s).1 cs ∧ Rd b Ab cb gr (partD b s).2 w' ∧ Below w00.heap.size w00 w' ∧ Kept w w' (fun k => k = gr) := by
  have hu := Tryz.underlying87
  have hu2 := Tryz.underlying85
  have hgl := blk_lt hR.1
  have hX1 := blk_new w (.cells #[.int .i64 0, .int .i64 0, .slice none 0 0] 87)
  have hR1 : Rd b Ab cb gr s (w.alloc (.cells #[.int .i64 0, .int .i64 0, .slice none 0 0] 87)) := ⟨blk_al hR.1 _, hR.2⟩
  have hb1 := below_alloc hb0 (.cells #[.int .i64 0, .int .i64 0, .slice none 0 0] 87)
  have hk1 : Kept w (w.alloc (.cells #[.int .i64 0, .int .i64 0, .slice none 0 0] 87)) (fun k => k = gr) := Kept.alloc (Kept.refl _ _) _
  have hz1 : (w.alloc (.cells #[.int .i64 0, .int .i64 0, .slice none 0 0] 87)).heap.size = w.heap.size + 1 := alsz
  have hs0 := hb0.size
  go_enter Tryz.func26, Tryz.ntmps26
  go_wp2_with fail
  refine (reader_one.calls b Ab cb gr s w00 _ hC hb hl hb1 hg hR1).mono ?_; rintro _ w2 ⟨rfl, hR2, hb2, hk2⟩
  have hX2 := blk_kept hX1 hk2 (by omega)
  have hz2 := hk2.1
  rw [hz1] at hz2
  replace hk2 := Kept.same hk1 hk2
  generalize hr1 : oneR b s = r1 at hR2 ⊢
  replace hr1 := Aside0.mk hr1
  clear hX1 hR1 hb1 hk1
  go_wp2_with fail
  refine (reader_one.calls b Ab cb gr r1.2 w00 _ hC hb hl hb2 hg hR2).mono ?_; rintro _ w3 ⟨rfl, hR3, hb3, hk3⟩
  have hX3 := blk_kept hX2 hk3 (by omega)
  have hz3 := hk3.1
  skip
  replace hk3 := Kept.same hk2 hk3
  generalize hr2 : oneR b r1.2 = r2 at hR3 ⊢
  replace hr2 := Aside0.mk hr2
  clear hX2 hR2 hb2 hk2
  go_wp2_with fail
  refine (row_task.calls b Ab cb gr r2.2 w00 _ hC hb hl hb3 hg hR3).mono ?_; rintro _ w4 ⟨v9, rfl, hN4, hR4, hb4, hk4⟩
  have hX4 := blk_kept hX3 hk4 (by omega)
  replace hk4 := Kept.same hk3 hk4
  have hv := Aside0.mk (show partD b s = (⟨⟨r1.1, r2.1⟩, (rowR b (taskD b) r2.2).1⟩, (rowR b (taskD b) r2.2).2) by unfold partD; rw [hr1.out, hr2.out])
  clear hr1 hr2 hX3 hR3 hb3 hk3
  obtain ⟨A9, c9, rfl⟩ := Kd.N_slice hN4
  have HN := Aside0.mk hN4
  clear hN4
  generalize (rowR b (taskD b) r2.2).1 = xs at hv HN ⊢
  generalize (rowR b (taskD b) r2.2).2 = s9 at hv hR4 ⊢
  generalize r1.1 = a1 at hv ⊢
  generalize r2.1 = a2 at hv ⊢
  go_wp2_with ((with_reducible refine gate_store (t := 87) (p := 2) rfl ?_); refine stB (w0 := w00) (base := w00.heap.size) (seg := [.int .i64 a1, .int .i64 a2, .slice A9 xs.length c9]) (cs' := [.int .i64 a1, .int .i64 a2, .slice A9 xs.length c9]) hX4 hb4 hs0 (h := fun wy hBy hby hgy => ?_))
  (try simp only [Exit.inBlock, Exit.then])
  refine bodyPost_ret (results_single rfl (.cell _ 87 _ (0, 0) _ rfl hBy Tryz.underlying87 rfl (by kernel_rfl) .nil)) rfl ?_
  have hNy := Kd.N_grown HN.out hgy (fun k hk he => by have := Option.some.inj he; omega)
  exact ⟨_, rfl, by rw [hv.out]; exact k87_mkF wy _ (⟨⟨a1, a2⟩, xs⟩ : S87) (Kd.N_reads' hNy).2.1 (Kd.F_mono (Kd.N_F hNy) (fun k hk => by omega)), by rw [hv.out]; exact ⟨blk_grown hR4.1 hgy (fun he => by have := Option.some.inj he; omega), hR4.2⟩, hby, Kept.of_grown hgy hk4 (fun k hk => Or.inr (by have := Option.some.inj hk; omega))⟩
theorem row_part.calls (b : List Int) (Ab : Option Addr) (cb : Nat) (gr : Nat) (s : Nat × Int) (w00 w : World) (hC : Kd.C (Kd.int .u8) w00 Ab b.length b) (hb : ∀ x ∈ b, 0 ≤ x ∧ x ≤ 255) (hl : b.length ≤ 100000) (hb0 : Below w00.heap.size w00 w) (hg : w00.heap.size ≤ gr) (hR : Rd b Ab cb gr s w) :
    Calls Tryz.prog 25 #[.pointer (some ⟨gr, 0, none⟩), .func (.func 26) #[.pointer (some ⟨gr, 0, none⟩)] #[]] w fun e w' => ∃ v, e = .returned v ∧ Kd.N k87 87 w' w.heap.size (fun k => w.heap.size ≤ k) v (rowR b (partD b) s).1 ∧ Rd b Ab cb gr (rowR b (partD b) s).2 w' ∧ Below w00.heap.size w00 w' ∧ Kept w w' (fun k => k = gr) := by
  have hu := Tryz.underlying50
  have HC := Aside0.mk hC
  have HB := Aside0.mk hb
  have hgl := blk_lt hR.1
  clear hC hb
  go_enter Tryz.func25, Tryz.ntmps25
  go_wp2_with fail
  refine (reader_one.calls b Ab cb gr s w00 _ HC.out HB.out hl hb0 hg hR).mono ?_; rintro _ w2 ⟨rfl, hR2, hb2, hk2⟩
  have hv := Aside0.mk (show rowR b (partD b) s = rowG (partD b) (oneR b s).1.toNat (oneR b s).2 [] from rfl)
  have ho := oneR_bd HB.out s
  generalize (oneR b s).2 = s2 at hR2 hv ⊢
  generalize (oneR b s).1 = a at hv ho ⊢
  obtain ⟨m, rfl⟩ : ∃ m : Nat, a = m := ⟨a.toNat, by omega⟩
  rw [Int.toNat_natCast] at hv
  have hm : m ≤ 255 := by omega
  have hR2 := Aside0.mk hR2
  have hk2 := Aside0.mk hk2
  have hb0s := hb0.size
  have hws : w.heap.size ≤ w.heap.size := Nat.le_refl _
  clear ho hb0 hR
  go_wp2
  go_loopg [5, 6] m (fun k v5 v6 wr => ∃ (n : Nat) (s1 : Nat × Int) (out : List S87), n = k ∧ v6 = .int .i64 n ∧ Aside0 (rowG (partD b) n s1 out = rowR b (partD b) s) ∧ Aside0 (Kd.N k87 87 wr w.heap.size (fun k => w.heap.size ≤ k) v5 out) ∧ Aside0 (out.length + n ≤ m) ∧ Aside0 (Rd b Ab cb gr s1 wr) ∧ Aside0 (Kept w wr (fun k => k = gr)) ∧ Below w00.heap.size w00 wr)
  case atStart => exact ⟨m, s2, [], rfl, rfl, ⟨hv.out.symm⟩, ⟨Kd.N_nil _ _ _ _ _⟩, ⟨by simp⟩, hR2, hk2, hb2⟩
  case round =>
    clear hv hR2 hk2 hb2
    obtain ⟨n, s1, out, hn, rfl, ha, hN, hol, hR, hk, hbr⟩ := hrel
    obtain ⟨x0, x1, x2⟩ := bx3 hR.out.1
    cases n with
    | zero =>
      have hv := Aside0.mk (show rowR b (partD b) s = (out, s1) from ha.out.symm)
      clear ha
      go_wp2
      go_ret
      exact ⟨_, rfl, by rw [hv.out]; exact hN.out, by rw [hv.out]; exact hR.out, hbr, hk.out⟩
    | succ n =>
      have hn2 : ((n + 1 : Nat) : Int) = (n : Int) + 1 := by omega
      have hn3 : n ≤ 255 := by have := hol.out; omega
      obtain ⟨a1, e1⟩ := s1
      have x2 : wr.cell? ⟨gr, 2, none⟩ = some (.int .i64 e1) := x2
      by_cases ce : e1 = 0
      · have hab := Aside0.mk (show rowG (partD b) n (partD b (a1, e1)).2 (out ++ [(partD b (a1, e1)).1]) = rowR b (partD b) s by rw [← ha.out]; unfold rowG; rw [if_pos ce]; cases n <;> rfl)
        have hs1 := hk.out.1
        subst ce
        clear ha
        go_wp2_with fail
        refine (reader_part.calls b Ab cb gr (a1, 0) w00 _ HC.out HB.out hl hbr hg hR.out).mono ?_; rintro _ w3 ⟨cs3, rfl, hF3, hR3, hb3, hk3⟩; obtain ⟨A3, c3, rfl, l3, g3⟩ := k87_openF hF3; have G3 := Aside0.mk g3; clear hF3 g3
        have hN3 := Aside0.mk (Kd.N_kept hN.out hk3 (fun k hk1 he => by omega))
        have hk4 := Aside0.mk (Kept.same hk.out hk3)
        have hs3 := hk4.out.1
        have hs4 := hk3.1
        have hNr := hN
        clear x0 x1 x2 hN hR hk hk3
        have hR3 := Aside0.mk hR3
        generalize (partD b (a1, 0)).2 = s3 at hR3 hab ⊢
        generalize (partD b (a1, 0)).1 = x at *
        go_wp2_with ((with_reducible refine gate_builtin (b := .append) (xs := #[.tmp 20, .tmp 23]) rfl ?_); at_builtin; refine apN row87 (w0 := w3) (base := w.heap.size) (cs := [.int .i64 x.f0.f0, .int .i64 x.f0.f1, .slice A3 x.f1.length c3]) (p := x) (okp := fun k => wr.heap.size ≤ k) hN3.out (k87_mkF _ _ x l3 G3.out) (fun k hk => ⟨by omega, fun he => by have := Kd.N_lt hNr.out k he.symm; omega⟩) (fun k hk => by omega) (Below.refl _ _) hs3 (by have := hol.out; omega) (h := fun v8 w8 hN8 hb8 hg8 hat8 => ?_))
        have hR8 := Aside0.mk (show Rd b Ab cb gr s3 w8 from ⟨blk_grown hR3.out.1 hg8 (fun he => by have := hN3.out.1 gr he.symm; omega), hR3.out.2⟩)
        have hk8 := Aside0.mk (Kept.of_grown hg8 hk4.out (fun k hk => Or.inr (hN3.out.1 k hk)))
        have hb9 := Below.trans hb3 (Below.mono hb8 (Nat.le_trans hb0s hws))
        go_roundg n
        case measure => omega
        case rel => exact ⟨n, s3, out ++ [x], by omega, by go_num, hab, ⟨hN8⟩, ⟨by have := hol.out; rw [List.length_append]; show out.length + 1 + n ≤ m; omega⟩, hR8, hk8, hb9⟩
      · have hv := Aside0.mk (show rowR b (partD b) s = (out, (a1, e1)) by rw [← ha.out]; unfold rowG; rw [if_neg ce])
        have ce1 : (e1 == 0) = false := by simpa using ce
        clear ha ce
        go_wp2
        go_ret
        exact ⟨_, rfl, by rw [hv.out]; exact hN.out, by rw [hv.out]; exact hR.out, hbr, hk.out⟩
end Go.Proofs.YtmngaagojkihbaaGreat.FTop
