/- Contracts of functions that the statement TopAlone reaches, and plain lemmas. No condition. -/
import Derived.Test.YtmngaagojkihbaaGreatZ06
import Derived.Test.YtmngaagojkihbaaGreatZ04
namespace Go.Proofs.YtmngaagojkihbaaGreat.FTop
open Go.RowKit Go.Proofs.YtmngaagojkihbaaGreatW.PrintWords Go.Proofs.YtmngaagojkihbaaGreatW.PrintLast Go.Proofs.YtmngaagojkihbaaGreatW.PrintMore
attribute [local go_sem] max2_int min2_int max_two min_two
set_option linter.unusedVariables false
set_option linter.unusedSimpArgs false
set_option maxHeartbeats 8000000
set_option maxRecDepth 100000
def outL {α : Type} (l : List α) (i : Nat) : List α := l.take i ++ l.drop (i + 1)
abbrev nwb (ok : Nat → Prop) (w : World) : Nat → Prop := fun k => (ok k ∧ k < w.heap.size) ∨ w.heap.size ≤ k
def without44.T1 : Bool × List (List Nat × List Nat) := (true, [([], []), ([], []), ([], []), ([1, 2], [1, 2]), ([0, 3], [0, 3]), ([], []), ([], []), ([6], [6]), ([5, 7], [5, 7]), ([4, 8, 4], [4, 8]), ([9, 9, 0, 1, 2, 3, 4, 5, 6, 7, 8, 9], [9])])
def without44.B1 : List Nat := [0, 0, 0, 6, 15, 0, 0, 64, 224, 511, 1023]
theorem without44.tab1 : rtab .any (opsOf Tryz.f107 1) = without44.T1 := by kernel_rfl
theorem without44.bits1 : waitsOk without44.T1.2 without44.B1 = true := by kernel_rfl
theorem without44.calls (A : Option Addr) (c : Nat) (l : List S44) (i : Nat) (ok : Nat → Prop) (w : World) (h : Kd.F k44 w ok A l.length l) (hc : l.length ≤ c) (hi : i < l.length) (hl : l.length ≤ 1000) :
    Calls Tryz.prog 107 #[.slice A l.length c, .int .i64 i] w fun e w' => ∃ v, e = .returned v ∧ Kd.N k44 44 w' w.heap.size (nwb ok w) v (outL l i) ∧ Below w.heap.size w w' := by
  have hF0 := Aside0.mk (Kd.F_bound h)
  have hF1 := Aside0.mk (F_takeN hF0.out (m := i) (by omega))
  have hF2 := F_cutN hF0.out (m := i + 1) (by omega) hc
  obtain ⟨A7, hA7⟩ : ∃ A7, A7 = if c = i + 1 then A else A.map (·.add ((i + 1) * k44.sz)) := ⟨_, rfl⟩
  have hcut := cutTo row44 A (n := l.length) (c := c) (j := i) (by omega) hc
  have hcut2 : ∀ W : World, (Instr.slice 76 (.slice A l.length c) (some (.int .i64 ((i : Int) + 1))) none none).run Tryz.prog W = .ok (.slice A7 (l.length - (i + 1)) (c - (i + 1))) W := by rw [hA7]; exact cutFrom row44 A (n := l.length) (c := c) (j := i + 1) (by omega)
  have hF3 := Aside0.mk (show Kd.F k44 w (fun k => ok k ∧ k < w.heap.size) A7 (l.length - (i + 1)) (l.drop (i + 1)) from by rw [hA7]; exact hF2)
  have HA7 := Aside0.mk hA7
  have HW1 := Aside0.mk (show wrap64 ((i : Int) + 1) = (i : Int) + 1 from w64 (by omega) (by omega))
  clear hA7 hF2 h
  go_enter Tryz.func107, Tryz.ntmps107
  go_wp2
  have hw1 := HW1.out
  refine st_ 11 (fun w' => Below w.heap.size w w') [9] without44.tab1 without44.bits1 (below_drew1 bl0) (h := fun HT HW hHeld => ?_)
  repeat (first | refine pn_ HT (h := ?_) | refine tn_ HT HW hHeld (h := ?_) | refine zn_ HT (h := ?_))
  clear hw1
  refine on_ HT (h := fun K hK => ?_)
  refine ev_ (w1 := w.drew.alloc (.cells #[] 44)) (v := .slice (some ⟨w.drew.heap.size, 0, none⟩) 0 0) (by go_simp; done) ?_
  have hN0 := N_empty (d := k44) w.drew w.heap.size (nwb ok w) 44 (Nat.le_refl _) (Or.inr (Nat.le_refl _))
  refine hK.out _ _ (below_alloc (hHeld) _) (fun hHeld => ?_)
  refine nm_ (h := ?_)
  have hw1 := HW1.out
  repeat (first | refine pn_ HT (h := ?_) | refine tn_ HT HW hHeld (h := ?_) | refine zn_ HT (h := ?_))
  clear hw1
  refine on_ HT (h := fun K hK => ?_)
  refine apNR_step row44 (w0 := w) hN0 (Kd.F_below hF1.out (hHeld)) (fun k hk => ⟨Or.inl hk, ne_own hN0 hk.2⟩) (fun k hk => Or.inr (Nat.le_trans (Below.size (hHeld)) hk)) (hHeld) (Below.size (hHeld)) (by show 0 + i ≤ 100000; omega) (h := fun v5 w5 hN5 hb5 hg5 hat5 => ?_)
  refine hK.out _ _ hb5 (fun hHeld => ?_)
  refine nm_ (h := ?_)
  have hw1 := HW1.out
  repeat (first | refine pn_ HT (h := ?_) | refine tn_ HT HW hHeld (h := ?_) | refine zn_ HT (h := ?_))
  clear hw1
  refine ln_ HT (h := fun K hK => ?_)
  refine apNR_step row44 (w0 := w) hN5 (Kd.F_below hF3.out hb5) (fun k hk => ⟨Or.inl hk, ne_own hN5 hk.2⟩) (fun k hk => Or.inr (Nat.le_trans (Below.size hb5) hk)) hb5 (Below.size hb5) (by rw [List.nil_append, List.length_take]; omega) (h := fun v6 w6 hN6 hb6 hg6 hat6 => ?_)
  refine hK.out _ _ ?_
  refine nm_ (h := ?_)
  repeat (first | refine pn_ HT (h := ?_) | refine zn_ HT (h := ?_))
  refine dn_ HT (h := ?_)
  go_wp2
  go_ret
  exact ⟨_, rfl, by rw [List.nil_append] at hN6; exact hN6, hb6⟩
def without4.T1 : Bool × List (List Nat × List Nat) := (true, [([], []), ([], []), ([], []), ([1, 2], [1, 2]), ([0, 3], [0, 3]), ([], []), ([], []), ([6], [6]), ([5, 7], [5, 7]), ([4, 8, 4], [4, 8]), ([9, 9, 0, 1, 2, 3, 4, 5, 6, 7, 8, 9], [9])])
def without4.B1 : List Nat := [0, 0, 0, 6, 15, 0, 0, 64, 224, 511, 1023]
theorem without4.tab1 : rtab .any (opsOf Tryz.f108 1) = without4.T1 := by kernel_rfl
theorem without4.bits1 : waitsOk without4.T1.2 without4.B1 = true := by kernel_rfl
theorem without4.calls (A : Option Addr) (c : Nat) (l : List Bool) (i : Nat) (ok : Nat → Prop) (w : World) (h : Kd.F Kd.bool w ok A l.length l) (hc : l.length ≤ c) (hi : i < l.length) (hl : l.length ≤ 1000) :
    Calls Tryz.prog 108 #[.slice A l.length c, .int .i64 i] w fun e w' => ∃ v, e = .returned v ∧ Kd.N Kd.bool 4 w' w.heap.size (nwb ok w) v (outL l i) ∧ Below w.heap.size w w' := by
  have hF0 := Aside0.mk (Kd.F_bound h)
  have hF1 := Aside0.mk (F_takeN hF0.out (m := i) (by omega))
  have hF2 := F_cutN hF0.out (m := i + 1) (by omega) hc
  obtain ⟨A7, hA7⟩ : ∃ A7, A7 = if c = i + 1 then A else A.map (·.add ((i + 1) * Kd.bool.sz)) := ⟨_, rfl⟩
  have hcut := cutTo row4 A (n := l.length) (c := c) (j := i) (by omega) hc
  have hcut2 : ∀ W : World, (Instr.slice 77 (.slice A l.length c) (some (.int .i64 ((i : Int) + 1))) none none).run Tryz.prog W = .ok (.slice A7 (l.length - (i + 1)) (c - (i + 1))) W := by rw [hA7]; exact cutFrom row4 A (n := l.length) (c := c) (j := i + 1) (by omega)
  have hF3 := Aside0.mk (show Kd.F Kd.bool w (fun k => ok k ∧ k < w.heap.size) A7 (l.length - (i + 1)) (l.drop (i + 1)) from by rw [hA7]; exact hF2)
  have HA7 := Aside0.mk hA7
  have HW1 := Aside0.mk (show wrap64 ((i : Int) + 1) = (i : Int) + 1 from w64 (by omega) (by omega))
  clear hA7 hF2 h
  go_enter Tryz.func108, Tryz.ntmps108
  go_wp2
  have hw1 := HW1.out
  refine st_ 11 (fun w' => Below w.heap.size w w') [9] without4.tab1 without4.bits1 (below_drew1 bl0) (h := fun HT HW hHeld => ?_)
  repeat (first | refine pn_ HT (h := ?_) | refine tn_ HT HW hHeld (h := ?_) | refine zn_ HT (h := ?_))
  clear hw1
  refine on_ HT (h := fun K hK => ?_)
  refine ev_ (w1 := w.drew.alloc (.cells #[] 4)) (v := .slice (some ⟨w.drew.heap.size, 0, none⟩) 0 0) (by go_simp; done) ?_
  have hN0 := N_empty (d := Kd.bool) w.drew w.heap.size (nwb ok w) 4 (Nat.le_refl _) (Or.inr (Nat.le_refl _))
  refine hK.out _ _ (below_alloc (hHeld) _) (fun hHeld => ?_)
  refine nm_ (h := ?_)
  have hw1 := HW1.out
  repeat (first | refine pn_ HT (h := ?_) | refine tn_ HT HW hHeld (h := ?_) | refine zn_ HT (h := ?_))
  clear hw1
  refine on_ HT (h := fun K hK => ?_)
  refine apNR_step row4 (w0 := w) hN0 (Kd.F_below hF1.out (hHeld)) (fun k hk => ⟨Or.inl hk, ne_own hN0 hk.2⟩) (fun k hk => Or.inr (Nat.le_trans (Below.size (hHeld)) hk)) (hHeld) (Below.size (hHeld)) (by show 0 + i ≤ 100000; omega) (h := fun v5 w5 hN5 hb5 hg5 hat5 => ?_)
  refine hK.out _ _ hb5 (fun hHeld => ?_)
  refine nm_ (h := ?_)
  have hw1 := HW1.out
  repeat (first | refine pn_ HT (h := ?_) | refine tn_ HT HW hHeld (h := ?_) | refine zn_ HT (h := ?_))
  clear hw1
  refine ln_ HT (h := fun K hK => ?_)
  refine apNR_step row4 (w0 := w) hN5 (Kd.F_below hF3.out hb5) (fun k hk => ⟨Or.inl hk, ne_own hN5 hk.2⟩) (fun k hk => Or.inr (Nat.le_trans (Below.size hb5) hk)) hb5 (Below.size hb5) (by rw [List.nil_append, List.length_take]; omega) (h := fun v6 w6 hN6 hb6 hg6 hat6 => ?_)
  refine hK.out _ _ ?_
  refine nm_ (h := ?_)
  repeat (first | refine pn_ HT (h := ?_) | refine zn_ HT (h := ?_))
  refine dn_ HT (h := ?_)
  go_wp2
  go_ret
  exact ⟨_, rfl, by rw [List.nil_append] at hN6; exact hN6, hb6⟩
def without3.T1 : Bool × List (List Nat × List Nat) := (true, [([], []), ([], []), ([], []), ([1, 2], [1, 2]), ([0, 3], [0, 3]), ([], []), ([], []), ([6], [6]), ([5, 7], [5, 7]), ([4, 8, 4], [4, 8]), ([9, 9, 0, 1, 2, 3, 4, 5, 6, 7, 8, 9], [9])])
def without3.B1 : List Nat := [0, 0, 0, 6, 15, 0, 0, 64, 224, 511, 1023]
theorem without3.tab1 : rtab .any (opsOf Tryz.f109 1) = without3.T1 := by kernel_rfl
theorem without3.bits1 : waitsOk without3.T1.2 without3.B1 = true := by kernel_rfl
theorem without3.calls (A : Option Addr) (c : Nat) (l : List Int) (i : Nat) (ok : Nat → Prop) (w : World) (h : Kd.F (Kd.int .i64) w ok A l.length l) (hc : l.length ≤ c) (hi : i < l.length) (hl : l.length ≤ 1000) :
    Calls Tryz.prog 109 #[.slice A l.length c, .int .i64 i] w fun e w' => ∃ v, e = .returned v ∧ Kd.N (Kd.int .i64) 3 w' w.heap.size (nwb ok w) v (outL l i) ∧ Below w.heap.size w w' := by
  have hF0 := Aside0.mk (Kd.F_bound h)
  have hF1 := Aside0.mk (F_takeN hF0.out (m := i) (by omega))
  have hF2 := F_cutN hF0.out (m := i + 1) (by omega) hc
  obtain ⟨A7, hA7⟩ : ∃ A7, A7 = if c = i + 1 then A else A.map (·.add ((i + 1) * (Kd.int .i64).sz)) := ⟨_, rfl⟩
  have hcut := cutTo row3 A (n := l.length) (c := c) (j := i) (by omega) hc
  have hcut2 : ∀ W : World, (Instr.slice 33 (.slice A l.length c) (some (.int .i64 ((i : Int) + 1))) none none).run Tryz.prog W = .ok (.slice A7 (l.length - (i + 1)) (c - (i + 1))) W := by rw [hA7]; exact cutFrom row3 A (n := l.length) (c := c) (j := i + 1) (by omega)
  have hF3 := Aside0.mk (show Kd.F (Kd.int .i64) w (fun k => ok k ∧ k < w.heap.size) A7 (l.length - (i + 1)) (l.drop (i + 1)) from by rw [hA7]; exact hF2)
  have HA7 := Aside0.mk hA7
  have HW1 := Aside0.mk (show wrap64 ((i : Int) + 1) = (i : Int) + 1 from w64 (by omega) (by omega))
  clear hA7 hF2 h
  go_enter Tryz.func109, Tryz.ntmps109
  go_wp2
  have hw1 := HW1.out
  refine st_ 11 (fun w' => Below w.heap.size w w') [9] without3.tab1 without3.bits1 (below_drew1 bl0) (h := fun HT HW hHeld => ?_)
  repeat (first | refine pn_ HT (h := ?_) | refine tn_ HT HW hHeld (h := ?_) | refine zn_ HT (h := ?_))
  clear hw1
  refine on_ HT (h := fun K hK => ?_)
  refine ev_ (w1 := w.drew.alloc (.cells #[] 3)) (v := .slice (some ⟨w.drew.heap.size, 0, none⟩) 0 0) (by go_simp; done) ?_
  have hN0 := N_empty (d := (Kd.int .i64)) w.drew w.heap.size (nwb ok w) 3 (Nat.le_refl _) (Or.inr (Nat.le_refl _))
  refine hK.out _ _ (below_alloc (hHeld) _) (fun hHeld => ?_)
  refine nm_ (h := ?_)
  have hw1 := HW1.out
  repeat (first | refine pn_ HT (h := ?_) | refine tn_ HT HW hHeld (h := ?_) | refine zn_ HT (h := ?_))
  clear hw1
  refine on_ HT (h := fun K hK => ?_)
  refine apNR_step row3 (w0 := w) hN0 (Kd.F_below hF1.out (hHeld)) (fun k hk => ⟨Or.inl hk, ne_own hN0 hk.2⟩) (fun k hk => Or.inr (Nat.le_trans (Below.size (hHeld)) hk)) (hHeld) (Below.size (hHeld)) (by show 0 + i ≤ 100000; omega) (h := fun v5 w5 hN5 hb5 hg5 hat5 => ?_)
  refine hK.out _ _ hb5 (fun hHeld => ?_)
  refine nm_ (h := ?_)
  have hw1 := HW1.out
  repeat (first | refine pn_ HT (h := ?_) | refine tn_ HT HW hHeld (h := ?_) | refine zn_ HT (h := ?_))
  clear hw1
  refine ln_ HT (h := fun K hK => ?_)
  refine apNR_step row3 (w0 := w) hN5 (Kd.F_below hF3.out hb5) (fun k hk => ⟨Or.inl hk, ne_own hN5 hk.2⟩) (fun k hk => Or.inr (Nat.le_trans (Below.size hb5) hk)) hb5 (Below.size hb5) (by rw [List.nil_append, List.length_take]; omega) (h := fun v6 w6 hN6 hb6 hg6 hat6 => ?_)
  refine hK.out _ _ ?_
  refine nm_ (h := ?_)
  repeat (first | refine pn_ HT (h := ?_) | refine zn_ HT (h := ?_))
  refine dn_ HT (h := ?_)
  go_wp2
  go_ret
  exact ⟨_, rfl, by rw [List.nil_append] at hN6; exact hN6, hb6⟩
def hand_miss.T4 : Bool × List (List Nat × List Nat) := (true, [([], []), ([0], [0]), ([], []), ([2], [2]), ([3], [3]), ([4], [4]), ([5], [5]), ([1, 6], [1, 6])])
def hand_miss.B4 : List Nat := [0, 1, 0, 4, 12, 28, 60, 127]
theorem hand_miss.tab4 : rtab .any (opsOf Tryz.f76 4) = hand_miss.T4 := by kernel_rfl
theorem hand_miss.bits4 : waitsOk hand_miss.T4.2 hand_miss.B4 = true := by kernel_rfl
def hand_miss.T6 : Bool × List (List Nat × List Nat) := (true, [([], []), ([0], [0]), ([1], [1]), ([], []), ([3], [3]), ([2, 4], [2, 4])])
def hand_miss.B6 : List Nat := [0, 1, 3, 0, 8, 31]
theorem hand_miss.tab6 : rtab .any (opsOf Tryz.f76 6) = hand_miss.T6 := by kernel_rfl
theorem hand_miss.bits6 : waitsOk hand_miss.T6.2 hand_miss.B6 = true := by kernel_rfl
theorem N_tight {α : Type} {d : Kd α} {e base : Nat} {w : World} {ok : Nat → Prop} {v : Value} {xs : List α} (hf : ∀ W ok1 ok2 x c, Kd.FK d W ok1 x c → Kd.FK d W ok2 x c) (h : Kd.N d e w base ok v xs) : Kd.N d e w base (fun k => some k = v.ownBlock) v xs := by
  obtain ⟨h0, rows, hl, hR, hr⟩ := h
  exact ⟨fun k hk => hk.symm, rows, hl, hR, fun j x c hx hc => hf _ _ _ _ _ (hr j x c hx hc)⟩
theorem flat38 (W : World) (ok1 ok2 : Nat → Prop) (x : S38) (c : List Value) (h : Kd.FK k38 W ok1 x c) : Kd.FK k38 W ok2 x c := by rw [k38_open (Kd.FK_now h)]; exact k38_mkF _ _ _
theorem flat182 (W : World) (ok1 ok2 : Nat → Prop) (x : S182) (c : List Value) (h : Kd.FK k182 W ok1 x c) : Kd.FK k182 W ok2 x c := by rw [k182_open (Kd.FK_now h)]; exact k182_mkF _ _ _
theorem own_ne2 {α β : Type} {d : Kd α} {d' : Kd β} {e e' b b' : Nat} {w : World} {ok ok' : Nat → Prop} {v v' : Value} {xs : List α} {ys : List β} (h : Kd.N d e w b ok v xs) (h' : Kd.N d' e' w b' ok' v' ys) (hne : e ≠ e') (k : Nat) (hk : some k = v.ownBlock) : some k ≠ v'.ownBlock := fun hk' => by
  obtain ⟨c, hc⟩ := Kd.N_typed h k hk.symm
  obtain ⟨c', hc'⟩ := Kd.N_typed h' k hk'.symm
  rw [hc] at hc'
  injection hc' with hc'
  injection hc' with _ he _
  exact hne he
def missL (now : Int) (js : List S182) : List S182 := js.filter (fun j => decide (now < j.f2))
def missLog (now : Int) (log : List S38) : List S182 → List S38 := List.foldl (fun lg j => if now < j.f2 then lg else noteL lg now 6 j.f0) log
theorem hand_miss.calls (base g : Nat) (lv : Value) (log : List S38) (now : Int) (js : List S182) (A3 : Option Addr) (c3 : Nat) (v2 v3 v4 v6 : Value) (okJ : Nat → Prop) (w : World) (hbs : base ≤ w.heap.size) (hg : base ≤ g)
    (hB : w.heap[g]? = some (.cells #[lv, .int .i64 now, v2, v3, v4, .slice A3 js.length c3, v6] 160 (0, 0))) (hN : Kd.N k38 38 w base (okG g) lv log) (hJ : Kd.F k182 w okJ A3 js.length js) (hjc : js.length ≤ c3) (hj : js.length ≤ 1000) (hok : ∀ k, okJ k → k ≠ g ∧ some k ≠ lv.ownBlock) :
    Calls Tryz.prog 76 #[.pointer (some ⟨g, 0, none⟩)] w fun e w' => e = .returned (.tuple #[]) ∧ ∃ lv' A' c', w'.heap[g]? = some (.cells #[lv', .int .i64 now, v2, v3, v4, .slice A' (missL now js).length c', v6] 160 (0, 0)) ∧ Kd.N k38 38 w' base (okG g) lv' (missLog now log js) ∧ (missL now js).length ≤ c' ∧
      Kd.F k182 w' (fun k => w.heap.size ≤ k ∧ some k ≠ lv'.ownBlock) A' (missL now js).length (missL now js) ∧ Below base w w' ∧ Kept w w' (handS g lv) ∧ (lv'.ownBlock = lv.ownBlock ∨ ∃ b, lv'.ownBlock = some b ∧ w.heap.size ≤ b) := by
  have hu := Tryz.underlying182
  have HB := Aside0.mk hB
  have HN := Aside0.mk hN
  have HJ := Aside0.mk (Kd.F_bound hJ)
  have HOK := Aside0.mk hok
  have hgl := blk_lt hB
  have x5 : w.cell? ⟨g, 5, none⟩ = some (.slice A3 js.length c3) := by rw [blk_cell hB]; rfl
  clear hB hN hJ hok
  go_enter Tryz.func76, Tryz.ntmps76
  go_wp2
  clear x5
  go_loopg [2, 11] js.length (fun k vl v11 wr => ∃ (i : Nat) (lv1 : Value), i + k = js.length ∧ v11 = .int .i64 i ∧ wr.heap[g]? = some (.cells #[lv1, .int .i64 now, v2, v3, v4, .slice A3 js.length c3, v6] 160 (0, 0)) ∧ Kd.N k38 38 wr base (okG g) lv1 (missLog now log (js.take i)) ∧
    Kd.N k182 182 wr w.heap.size (fun k => w.heap.size ≤ k) vl (missL now (js.take i)) ∧ Below base w wr ∧ Kept w wr (handS g lv) ∧ (lv1.ownBlock = lv.ownBlock ∨ ∃ b, lv1.ownBlock = some b ∧ w.heap.size ≤ b))
  case atStart => exact ⟨0, lv, by omega, rfl, HB.out, HN.out, Kd.N_nil _ _ _ _ _, Below.refl _ _, ⟨Nat.le_refl _, fun _ _ _ => rfl⟩, Or.inl rfl⟩
  case round =>
    obtain ⟨i, lv1, hi, rfl, hB1, hN1, hL1, hb1, hk1, hr1⟩ := hrel
    have HN1 := Aside0.mk hN1
    have HL1 := Aside0.mk hL1
    have HK1 := Aside0.mk hk1
    have HR1 := Aside0.mk hr1
    clear hN1 hL1 hr1
    by_cases ci : i < js.length
    · have hF1 := Kd.F_kept HJ.out hk1 (fun k hk hS => by rcases hS with hS | hS; exact (HOK.out k hk.1).1 hS; exact (HOK.out k hk.1).2 hS)
      obtain ⟨ad, x, rfl, hx, h0, h1, h2, h3, h4, h5⟩ := el182 (Kd.F_now hF1) i ci
      clear hF1
      have hB2 := blk_al hB1 (.cells #[.int .i64 x.f0, .int .i64 x.f1, .int .i64 x.f2, .int .i64 x.f3, .int .i64 x.f4, .bool x.f5] 182)
      have hX := blk_new wr (.cells #[.int .i64 x.f0, .int .i64 x.f1, .int .i64 x.f2, .int .i64 x.f3, .int .i64 x.f4, .bool x.f5] 182)
      obtain ⟨z0, z1, z2, z3, z4, z5⟩ := bx6 hX
      have y1 : (wr.alloc (.cells #[.int .i64 x.f0, .int .i64 x.f1, .int .i64 x.f2, .int .i64 x.f3, .int .i64 x.f4, .bool x.f5] 182)).cell? ⟨g, 1, none⟩ = some (.int .i64 now) := by rw [blk_cell hB2]; rfl
      have hbw2 := below_drew (Below.alloc hb1 (Nat.le_trans hbs hk1.1) (.cells #[.int .i64 x.f0, .int .i64 x.f1, .int .i64 x.f2, .int .i64 x.f3, .int .i64 x.f4, .bool x.f5] 182))
      have hN2 := Kd.N_drew (Kd.N_alloc HN1.out (.cells #[.int .i64 x.f0, .int .i64 x.f1, .int .i64 x.f2, .int .i64 x.f3, .int .i64 x.f4, .bool x.f5] 182))
      have hL2 := Kd.N_drew (Kd.N_alloc HL1.out (.cells #[.int .i64 x.f0, .int .i64 x.f1, .int .i64 x.f2, .int .i64 x.f3, .int .i64 x.f4, .bool x.f5] 182))
      have hk2 : Kept w (wr.alloc (.cells #[.int .i64 x.f0, .int .i64 x.f1, .int .i64 x.f2, .int .i64 x.f3, .int .i64 x.f4, .bool x.f5] 182)).drew (handS g lv) := ⟨by have h1 : (wr.alloc (.cells #[.int .i64 x.f0, .int .i64 x.f1, .int .i64 x.f2, .int .i64 x.f3, .int .i64 x.f4, .bool x.f5] 182)).drew.heap.size = wr.heap.size + 1 := alsz; have := hk1.1; omega, fun k hk hS => (Below.heap_alloc wr (.cells #[.int .i64 x.f0, .int .i64 x.f1, .int .i64 x.f2, .int .i64 x.f3, .int .i64 x.f4, .bool x.f5] 182) k (Nat.lt_of_lt_of_le hk hk1.1)).trans (hk1.2 k hk hS)⟩
      have hq := Aside0.mk (show missL now (js.take (i + 1)) = missL now (js.take i) ++ if now < x.f2 then [x] else [] by
        unfold missL; rw [List.take_succ_eq_append_getElem ci, List.filter_append, hx.out]; by_cases h : now < x.f2 <;> simp [h])
      have hql := Aside0.mk (show missLog now log (js.take (i + 1)) = if now < x.f2 then missLog now log (js.take i) else noteL (missLog now log (js.take i)) now 6 x.f0 by
        unfold missLog; rw [List.take_succ_eq_append_getElem ci, List.foldl_append, hx.out]; rfl)
      have hml : (missL now (js.take i)).length ≤ 1000 := Nat.le_trans (List.length_filter_le _ _) (by rw [List.length_take]; omega)
      go_wp2
      refine st_ 8 (fun w' => w'.cell? (⟨wr.heap.size, 2, none⟩) = some (.int .i64 x.f2) ∧ w'.cell? (⟨g, 1, none⟩) = some (.int .i64 now)) [] hand_miss.tab4 hand_miss.bits4 ⟨z2, y1⟩ (h := fun HT HW hHeld => ?_)
      repeat (first | refine pn_ HT (h := ?_) | refine tn_ HT HW hHeld (h := ?_) | refine zn_ HT (h := ?_))
      refine dn_ HT (h := ?_)
      have hX' := blk_drew hX
      have hB2' := blk_drew hB2
      clear HT HW hHeld z0 z1 z2 z3 z4 z5 y1 hX hB2
      generalize (wr.alloc (.cells #[.int .i64 x.f0, .int .i64 x.f1, .int .i64 x.f2, .int .i64 x.f3, .int .i64 x.f4, .bool x.f5] 182)).drew = wA at hbw2 hN2 hL2 hk2 hX' hB2' ⊢
      generalize wr.heap.size = gx at hX' ⊢
      obtain ⟨z0, z1, z2, z3, z4, z5⟩ := bx6 hX'
      generalize missL now (js.take i) = left at hL2 hq hml HL1
      generalize missLog now log (js.take i) = lg at hN2 hql HN1
      have HN2 := Aside0.mk hN2
      have HL2 := Aside0.mk hL2
      have HBW := Aside0.mk hbw2
      have HK2 := Aside0.mk hk2
      clear hN2 hL2 hbw2
      have hsz := hk2.1
      clear hk2
      by_cases cn : now < x.f2
      · go_wp2_with ((with_reducible refine gate_builtin (b := .append) (xs := #[.tmp 23, .tmp 25]) rfl ?_); at_builtin; refine apN row182 (w0 := wA) (cs := [.int .i64 x.f0, .int .i64 x.f1, .int .i64 x.f2, .int .i64 x.f3, .int .i64 x.f4, .bool x.f5]) (p := x) (okp := fun _ => False) HL2.out (k182_mkF _ _ x) (fun k hk => hk.elim) (fun k hk => by omega) (Below.refl _ _) hsz (by omega) (h := fun v7 w7 hN7 hb7 hg7 hat7 => ?_))
        go_roundg (js.length - i - 1)
        case measure => omega
        case rel =>
          refine ⟨i + 1, lv1, by omega, by go_num, blk_grown hB2' hg7 (Kd.N_away HL2.out (fun k hk => by omega)), ?_, by rw [hq.out, if_pos cn]; exact hN7, ?_, ?_, HR1.out⟩
          · rw [hql.out, if_pos cn]
            exact Kd.N_mono (Kd.N_grown (N_tight flat38 HN2.out) hg7 (fun k hk => own_ne2 HN2.out HL2.out (by decide) k hk)) (fun k hk => HN2.out.1 k hk.symm)
          · exact Below.trans HBW.out (Below.mono hb7 hbs)
          · exact ⟨Nat.le_trans HK2.out.1 hg7.size, fun k hk hS => (hg7.block k (Nat.lt_of_lt_of_le hk HK2.out.1) (ne_own HL2.out hk)).trans (HK2.out.2 k hk hS)⟩
      · go_wp2
        have hlt : g < wA.heap.size := blk_lt hB2'
        refine st_ 6 (fun w' => w'.cell? (⟨gx, 0, none⟩) = some (.int .i64 x.f0)) [5] hand_miss.tab6 hand_miss.bits6 (z0) (h := fun HT HW hHeld => ?_)
        repeat (first | refine pn_ HT (h := ?_) | refine tn_ HT HW hHeld (h := ?_) | refine zn_ HT (h := ?_))
        refine ln_ HT (h := fun K hK => ?_)
        refine cn_ ((book_note.calls base g lv1 lg now 6 x.f0 v2 v3 v4 (.slice (some ad) js.length c3) v6 wA.drew (by show base ≤ wA.heap.size; omega) hg (blk_drew hB2') (Kd.N_drew HN2.out)).mono (fun e w' h => ⟨_, h.1, h.2⟩)) (R := fun _ w' => ∃ lv', w'.heap[g]? = some (.cells #[lv', .int .i64 now, v2, v3, v4, .slice (some ad) js.length c3, v6] 160 (0, 0)) ∧ Kd.N k38 38 w' base (okG g) lv' (noteL lg now 6 x.f0) ∧ Below base wA.drew w' ∧ Kept wA.drew w' (handS g lv1) ∧ (lv'.ownBlock = lv1.ownBlock ∨ ∃ b, lv'.ownBlock = some b ∧ wA.drew.heap.size ≤ b)) (h := fun v7 w7 hv7 => ?_)
        obtain ⟨lv7, hB7, hN7, hb7, hk7, hr7⟩ := hv7
        refine hK.out _ _ ?_
        refine dn_ HT (h := ?_)
        go_wp2
        go_roundg (js.length - i - 1)
        case measure => omega
        case rel =>
          have hs7 : wA.heap.size ≤ w7.heap.size := hk7.1
          refine ⟨i + 1, lv7, by omega, by go_num, hB7, by rw [hql.out, if_neg (show ¬ now < x.f2 by omega)]; exact hN7, ?_, ?_, ?_, ?_⟩
          · rw [hq.out, if_neg (show ¬ now < x.f2 by omega), List.append_nil]
            refine Kd.N_mono (Kd.N_kept (Kd.N_drew (N_tight flat182 HL2.out)) hk7 (fun k hk hS => ?_)) (fun k hk => HL2.out.1 k hk.symm)
            have h1 := HL2.out.1 k hk.symm
            rcases hS with hS | hS
            · omega
            · exact own_ne2 HN2.out HL2.out (by decide) k hS hk
          · exact Below.trans (below_drew HBW.out) hb7
          · refine ⟨Nat.le_trans HK2.out.1 hs7, fun k hk hS => (hk7.2 k (Nat.lt_of_lt_of_le hk HK2.out.1) (fun hS1 => ?_)).trans (HK2.out.2 k hk hS)⟩
            rcases hS1 with hS1 | hS1
            · exact hS (Or.inl hS1)
            · rcases HR1.out with h1 | ⟨b, h1, h2⟩
              · exact hS (Or.inr (hS1.trans h1))
              · rw [h1] at hS1; have := Option.some.inj hS1; omega
          · rcases hr7 with h1 | ⟨b, h1, h2⟩
            · rw [h1]; exact HR1.out
            · exact Or.inr ⟨b, h1, Nat.le_trans HK2.out.1 h2⟩
    · have : i = js.length := by omega
      subst this
      have e1 : missL now (js.take js.length) = missL now js := by rw [List.take_length]
      have e2 : missLog now log (js.take js.length) = missLog now log js := by rw [List.take_length]
      have hN2 := HN1.out
      have hL2 := HL1.out
      rw [e2] at hN2
      rw [e1] at hL2
      obtain ⟨A7, c7, rfl⟩ := Kd.N_slice hL2
      have hlc := (Kd.N_reads' hL2).2.1
      have hgl2 := blk_lt hB1
      have HN2 := Aside0.mk hN2
      have HL2 := Aside0.mk hL2
      clear hN2 hL2 e1 e2 HN1 HL1
      go_wp2_with ((with_reducible refine gate_store (t := 78) (p := 38) (v := .tmp 35) rfl ?_); refine stB (w0 := w) (base := base) (seg := [.slice A7 (missL now js).length c7]) (cs' := [lv1, .int .i64 now, v2, v3, v4, .slice A7 (missL now js).length c7, v6]) hB1 hb1 hg (h := fun w7 hB7 hb7 hg7 => ?_))
      go_end0
      refine ⟨rfl, lv1, A7, c7, hB7, Kd.N_grown HN2.out hg7 (fun k hk he => hk (Option.some.inj he)), hlc, ?_, hb7, ?_, HR1.out⟩
      · have hL7 := Kd.N_grown (N_tight flat182 HL2.out) hg7 (fun k hk he => by have h1 := HL2.out.1 k hk.symm; have := Option.some.inj he; omega)
        exact Kd.N_F (Kd.N_mono hL7 (fun k hk => ⟨HL2.out.1 k hk.symm, fun hk' => own_ne2 HN2.out HL2.out (by decide) k hk' hk⟩))
      · exact ⟨Nat.le_trans HK1.out.1 hg7.size, fun k hk hS => (hg7.block k (Nat.lt_of_lt_of_le hk HK1.out.1) (fun he => hS (Or.inl (Option.some.inj he)))).trans (HK1.out.2 k hk hS)⟩
end Go.Proofs.YtmngaagojkihbaaGreat.FTop
namespace Go.Proofs.YtmngaagojkihbaaGreatW.PrintLast
open Go.RowKit Go.Proofs.YtmngaagojkihbaaGreatW.PrintWords
set_option linter.unusedVariables false
section
variable {P : Program} {ops : Array Oper} {Q : Exit → Act → World → Prop} {md : Region.Mode} {S : World → Prop} {ds : List Nat} {T : Bool × List (List Nat × List Nat)}
theorem tw_ (i j : Nat) {Ni Nj : Option Tmp} {li lj : Array Bool} {oi oj : Oper} {fuel : Nat} {l : Array Bool} {a : Act} {w : World} (hT : Aside0 (rtab md ops = T))
    (hli : l.setIfInBounds i true = li := by (simp only [sbA, sbB, sbC]; rfl)) (hlj : l.setIfInBounds j true = lj := by (simp only [sbA, sbB, sbC]; rfl))
    (hi : ops[i]? = some oi := by exact rfl) (hj : ops[j]? = some oj := by exact rfl) (hNi : oi.dst = Ni := by exact rfl) (hNj : oj.dst = Nj := by exact rfl)
    (hc : (readyT T.2 l.toList == [i, j] && l.toList.set i true == li.toList && l.toList.set j true == lj.toList) = true := by kernel_rfl) (hdi : i ∉ ds := by decide) (hdj : j ∉ ds := by decide)
    (h1 : ∀ K : Act → World → Prop, Shut (∀ a' w', S w' → (S w' → wpAnyLast P md ops Q S ds fuel li a' w') → K a' w') → if Region.wanted oi (yielded ops a.tmps) = true then Oper.wp P oi a w K Q else K (a.put Ni undef) w)
    (h2 : ∀ K : Act → World → Prop, Shut (∀ a' w', S w' → (S w' → wpAnyLast P md ops Q S ds fuel lj a' w') → K a' w') → if Region.wanted oj (yielded ops a.tmps) = true then Oper.wp P oj a w K Q else K (a.put Nj undef) w) :
    wpAnyLast P md ops Q S ds (fuel + 1) l a w :=
  two_ li lj hi hj hNi hNj (two_of hT.out hc) hdi hdj h1 h2
end
end Go.Proofs.YtmngaagojkihbaaGreatW.PrintLast
namespace Go.Proofs.YtmngaagojkihbaaGreat.FTop
open Go.RowKit Go.Proofs.YtmngaagojkihbaaGreatW.PrintWords Go.Proofs.YtmngaagojkihbaaGreatW.PrintLast Go.Proofs.YtmngaagojkihbaaGreatW.PrintMore
attribute [local go_sem] max2_int min2_int max_two min_two
set_option linter.unusedVariables false
set_option linter.unusedSimpArgs false
set_option maxHeartbeats 8000000
set_option maxRecDepth 100000
def hand_run.T1 : Bool × List (List Nat × List Nat) := (true, [([], []), ([0], [0]), ([1], [1]), ([2], [2]), ([3], [3]), ([], []), ([5], [5]), ([6], [6]), ([7], [7]), ([8], [8]), ([4, 9], [4, 9]), ([10], [10]), ([11], [11]), ([11], [11]), ([11], [11]), ([], []), ([12, 10, 0, 1, 2, 3, 4, 5, 6, 7, 8, 9, 10, 11, 12, 15], [12]), ([15, 13, 16, 0, 1, 2, 3, 4, 5, 6, 7, 8, 9, 10, 11, 12, 13, 15, 16], [13, 15]), ([14, 17, 0, 1, 2, 3, 4, 5, 6, 7, 8, 9, 10, 11, 12, 13, 14, 15, 16, 17], [14])])
def hand_run.B1 : List Nat := [0, 1, 3, 7, 15, 0, 32, 96, 224, 480, 1023, 2047, 4095, 4095, 4095, 0, 40959, 114687, 262143]
theorem hand_run.tab1 : rtab .any (opsOf Tryz.f77 1) = hand_run.T1 := by kernel_rfl
theorem hand_run.bits1 : waitsOk hand_run.T1.2 hand_run.B1 = true := by kernel_rfl
def hand_run.T5 : Bool × List (List Nat × List Nat) := (true, [([], []), ([0], [0]), ([1], [1]), ([2, 1], [1, 2]), ([1], [1]), ([4, 1], [1, 4]), ([5, 1], [1, 5]), ([6, 1], [1, 6]), ([7, 1], [1, 7]), ([1], [1]), ([9, 1], [1, 9]), ([8, 10, 1], [1, 8, 10]), ([11, 1], [1, 11]), ([12, 1], [1, 12]), ([3, 13, 1], [1, 3, 13]), ([1, 14], [1, 14]), ([15, 1], [15])])
def hand_run.B5 : List Nat := [0, 1, 3, 7, 3, 19, 51, 115, 243, 3, 515, 2035, 4083, 8179, 16383, 32767, 65535]
theorem hand_run.tab5 : rtab .any (opsOf Tryz.f77 5) = hand_run.T5 := by kernel_rfl
theorem hand_run.bits5 : waitsOk hand_run.T5.2 hand_run.B5 = true := by kernel_rfl
def hand_run.T6 : Bool × List (List Nat × List Nat) := (true, [([], []), ([0], [0]), ([1], [1]), ([], []), ([3], [3]), ([2, 4], [2, 4])])
def hand_run.B6 : List Nat := [0, 1, 3, 0, 8, 31]
theorem hand_run.tab6 : rtab .any (opsOf Tryz.f77 6) = hand_run.T6 := by kernel_rfl
theorem hand_run.bits6 : waitsOk hand_run.T6.2 hand_run.B6 = true := by kernel_rfl
def hand_run.T8 : Bool × List (List Nat × List Nat) := (true, [([], []), ([0], [0]), ([1], [1]), ([], []), ([3], [3]), ([2, 4], [2, 4])])
def hand_run.B8 : List Nat := [0, 1, 3, 0, 8, 31]
theorem hand_run.tab8 : rtab .any (opsOf Tryz.f77 8) = hand_run.T8 := by kernel_rfl
theorem hand_run.bits8 : waitsOk hand_run.T8.2 hand_run.B8 = true := by kernel_rfl
def runLog (l : List S44) (now : Int) (log : List S38) (j : S182) (ov : Bool) : List S38 := if ov then noteL log now (if (l.getD j.f0.toNat z44).f0 < j.f3 then 5 else 4) j.f0 else log
def runJ (l : List S44) (now : Int) (log : List S38) (js : List S182) : Int × List S182 × List S38 :=
  if js.length = 0 then (-1, js, log) else ((tickJ l js).2.1.f0, (tickJ l js).1, runLog l now log (tickJ l js).2.1 (tickJ l js).2.2)
theorem tick_task {l : List S44} {js js' : List S182} {j : S182} (hja : jobA l js = true) (h : tickJ l js = (js', j, true)) : ∃ k : Nat, j.f0 = k ∧ k < l.length := by
  unfold tickJ at h
  have hb := chooseI_bd l js
  split at h
  · simp at h
  · have hp : (chooseI l js).toNat < js.length := by omega
    have h1 : had1 (js.getD (chooseI l js).toNat z182) = j := (Prod.mk.inj (Prod.mk.inj h).2).1
    obtain ⟨k, hk, hkl⟩ := jobR_task (jobA_job hja hp)
    refine ⟨k, ?_, hkl⟩
    rw [← h1, ← hk, List.getD_eq_getElem?_getD, List.getElem?_eq_getElem hp]
    rfl
theorem hand_run.calls (base g : Nat) (lv : Value) (log : List S38) (now : Int) (l : List S44) (A0 : Option Addr) (c0 : Nat) (js : List S182) (A3 : Option Addr) (c3 : Nat) (v3 v4 v6 : Value) (okJ okT : Nat → Prop) (w : World) (hbs : base ≤ w.heap.size) (hg : base ≤ g)
    (hB : w.heap[g]? = some (.cells #[lv, .int .i64 now, .slice A0 l.length c0, v3, v4, .slice A3 js.length c3, v6] 160 (0, 0))) (hN : Kd.N k38 38 w base (okG g) lv log) (hT : Kd.F k44 w okT A0 l.length l) (hJ : Kd.F k182 w okJ A3 js.length js) (hlc : l.length ≤ c0) (hjc : js.length ≤ c3) (hja : jobA l js = true)
    (hokT : ∀ k, okT k → k ≠ g ∧ some k ≠ lv.ownBlock) (hok : ∀ k, okJ k → k ≠ g ∧ some k ≠ lv.ownBlock) :
    Calls Tryz.prog 77 #[.pointer (some ⟨g, 0, none⟩)] w fun e w' => e = .returned (.int .i64 (runJ l now log js).1) ∧ ∃ lv' A' c', w'.heap[g]? = some (.cells #[lv', .int .i64 now, .slice A0 l.length c0, v3, v4, .slice A' (runJ l now log js).2.1.length c', v6] 160 (0, 0)) ∧ Kd.N k38 38 w' base (okG g) lv' (runJ l now log js).2.2 ∧ (runJ l now log js).2.1.length ≤ c' ∧
      Kd.F k182 w' (fun k => (okJ k ∨ w.heap.size ≤ k) ∧ k ≠ g ∧ some k ≠ lv'.ownBlock) A' (runJ l now log js).2.1.length (runJ l now log js).2.1 ∧ Below base w w' ∧ Kept w w' (handS g lv) ∧ (lv'.ownBlock = lv.ownBlock ∨ ∃ b, lv'.ownBlock = some b ∧ w.heap.size ≤ b) := by
  have hu := Tryz.underlying182
  have hu2 := Tryz.underlying44
  have HB := Aside0.mk hB
  have HN := Aside0.mk hN
  have HT0 := Aside0.mk hT
  have HJ := Aside0.mk hJ
  have HOK := Aside0.mk hok
  have HOKT := Aside0.mk hokT
  have HJA := Aside0.mk hja
  have hgl := blk_lt hB
  have hn1 := (Kd.F_now hT).2.1
  have hn2 := (Kd.F_now hJ).2.1
  have x2 : w.cell? ⟨g, 2, none⟩ = some (.slice A0 l.length c0) := by rw [blk_cell hB]; rfl
  have x5 : w.cell? ⟨g, 5, none⟩ = some (.slice A3 js.length c3) := by rw [blk_cell hB]; rfl
  clear hB hN hT hJ hok hokT hja
  generalize htr : tickJ l js = tr
  have HTR := Aside0.mk htr
  have htc := Aside0.mk (fun W (hW : Below w.heap.size w W) => srp_Tick.calls A0 c0 l A3 c3 js (fun k => okJ k ∧ k < w.heap.size) W (Kd.C_below (Kd.F_now HT0.out) hW) (Kd.F_below (Kd.F_bound HJ.out) hW) hjc)
  rw [htr] at htc
  clear htr
  obtain ⟨js', j, ov⟩ := tr
  go_enter Tryz.func77, Tryz.ntmps77
  go_wp2
  refine st_ 19 (fun w' => w'.cell? (⟨g, 2, none⟩) = some (.slice A0 l.length c0) ∧ w'.cell? (⟨g, 5, none⟩) = some (.slice A3 js.length c3) ∧ Below w.heap.size w w') [17] hand_run.tab1 hand_run.bits1 ⟨x2, x5, below_drew1 bl0⟩ (h := fun HT HW hHeld => ?_)
  repeat (first | refine pn_ HT (h := ?_) | refine tn_ HT HW hHeld (h := ?_) | refine zn_ HT (h := ?_))
  refine join_ (σ := Nat × Option Addr × Nat) 3 #[true, true, true, true, true, true, true, true, true, true, true, true, true, true, true, true, false, false, false] (fun s => [(17, .tuple #[.slice s.2.1 js'.length s.2.2, vJ j, .bool ov]), (6, .tuple #[.slice s.2.1 js'.length s.2.2, vJ j, .bool ov]), (18, .slice s.2.1 js'.length s.2.2), (19, vJ j), (20, .bool ov), (4, .pointer (some ⟨s.1, 0, none⟩))])
    (fun s w' => Below w.heap.size w w' ∧ js'.length ≤ s.2.2 ∧ Kd.F k182 w' (fun k => ((okJ k ∧ k < w.heap.size) ∨ w.heap.size ≤ k) ∧ k ≠ s.1) s.2.1 js'.length js' ∧ w.heap.size ≤ s.1 ∧ w'.heap[s.1]? = some (.cells #[.int .i64 0, .int .i64 0, .int .i64 0, .int .i64 0, .int .i64 0, .bool false] 182 (0, 0))) (fun s w' hF => ?_) (fun HJN => ?_)
  rotate_left
  · refine tw_ 10 15 HT (h1 := fun K hK => ?_) (h2 := fun K hK => ?_)
    · refine cn_ ((htc.out _ (hHeld.2.2)).mono (fun e w' ⟨A', c', he, h⟩ => ⟨_, he, A', c', rfl, h⟩)) (R := fun v w' => ∃ A' c', v = .tuple #[.slice A' js'.length c', vJ j, .bool ov] ∧ js'.length ≤ c' ∧ Kd.F k182 w' (nw (fun k => okJ k ∧ k < w.heap.size) w.drew) A' js'.length js' ∧ Below w.drew.heap.size w.drew w') (h := fun v3' w3 hv3 => ?_)
      obtain ⟨A5, c5, rfl, hc5, hF5, hb3⟩ := hv3
      refine hK.out _ _ ⟨be_cell hb3 (hHeld.1), be_cell hb3 (hHeld.2.1), below_step (hHeld.2.2) hb3⟩ (fun hHeld => ?_)
      refine nm_ (h := ?_)
      repeat (first | refine pn_ HT (h := ?_) | refine tn_ HT HW hHeld (h := ?_) | refine zn_ HT (h := ?_))
      refine on_ HT (h := fun K hK => ?_)
      refine ev_ (w1 := w3.alloc (.cells #[.int .i64 0, .int .i64 0, .int .i64 0, .int .i64 0, .int .i64 0, .bool false] 182)) (v := .pointer (some ⟨w3.heap.size, 0, none⟩)) (by go_simp; done) ?_
      refine hK.out _ _ ⟨al_cell (hHeld.1) _, al_cell (hHeld.2.1) _, below_alloc (hHeld.2.2) _⟩ (fun hHeld => ?_)
      refine norm_ ?_ (HJN (w3.heap.size, A5, c5) _ ⟨(hHeld.2.2), hc5, Kd.F_alloc (Kd.F_elderB hF5 w3.heap.size (Nat.le_refl _)) _, (show w.heap.size ≤ w3.heap.size from hb3.size), blk_new w3 _⟩)
      simp only [putAll, Act.put, sbA, sbB, sbC]
    · refine ev_ (w1 := w.drew.alloc (.cells #[.int .i64 0, .int .i64 0, .int .i64 0, .int .i64 0, .int .i64 0, .bool false] 182)) (v := .pointer (some ⟨w.drew.heap.size, 0, none⟩)) (by go_simp; done) ?_
      have hsz : (w.drew.alloc (.cells #[.int .i64 0, .int .i64 0, .int .i64 0, .int .i64 0, .int .i64 0, .bool false] 182)).heap.size = w.heap.size + 1 := alsz
      refine hK.out _ _ ⟨al_cell (hHeld.1) _, al_cell (hHeld.2.1) _, below_alloc (hHeld.2.2) _⟩ (fun hHeld => ?_)
      refine nm_ (h := ?_)
      repeat (first | refine pn_ HT (h := ?_) | refine tn_ HT HW hHeld (h := ?_) | refine zn_ HT (h := ?_))
      refine on_ HT (h := fun K hK => ?_)
      refine cn_ ((htc.out _ (hHeld.2.2)).mono (fun e w' ⟨A', c', he, h⟩ => ⟨_, he, A', c', rfl, h⟩)) (R := fun v w' => ∃ A' c', v = .tuple #[.slice A' js'.length c', vJ j, .bool ov] ∧ js'.length ≤ c' ∧ Kd.F k182 w' (nw (fun k => okJ k ∧ k < w.heap.size) (w.drew.alloc (.cells #[.int .i64 0, .int .i64 0, .int .i64 0, .int .i64 0, .int .i64 0, .bool false] 182))) A' js'.length js' ∧ Below (w.drew.alloc (.cells #[.int .i64 0, .int .i64 0, .int .i64 0, .int .i64 0, .int .i64 0, .bool false] 182)).heap.size (w.drew.alloc (.cells #[.int .i64 0, .int .i64 0, .int .i64 0, .int .i64 0, .int .i64 0, .bool false] 182)) w') (h := fun v3' w3 hv3 => ?_)
      obtain ⟨A5, c5, rfl, hc5, hF5, hb3⟩ := hv3
      refine hK.out _ _ ⟨be_cell hb3 (hHeld.1), be_cell hb3 (hHeld.2.1), below_step (hHeld.2.2) hb3⟩ (fun hHeld => ?_)
      refine nm_ (h := ?_)
      iterate 4 refine pn_ HT (h := ?_)
      refine norm_ ?_ (HJN (w.drew.heap.size, A5, c5) _ ⟨(hHeld.2.2), hc5, Kd.F_mono hF5 (fun k hk => ⟨hk.elim Or.inl (fun h => Or.inr (by rw [hsz] at h; omega)), fun he => hk.elim (fun h => by have h1 : k = w.heap.size := he; have := h.2; omega) (fun h => by have h1 : k = w.heap.size := he; rw [hsz] at h; omega)⟩), Nat.le_refl _, blk_below (blk_new w.drew _) hb3⟩)
      simp only [putAll, Act.put, sbA, sbB, sbC]
  · obtain ⟨g4, A5, c5⟩ := s
    obtain ⟨hb5, hc5, hF5, hg4, hB4⟩ := hF
    dsimp only at hb5 hc5 hF5 hg4 hB4 ⊢
    refine norm_ (by (simp only [putAll, Act.put, sbA, sbB, sbC]; rfl)) ?_
    repeat (first | refine pn_ HT (h := ?_) | refine tn_ HT HW hHeld (h := ?_) | refine zn_ HT (h := ?_))
    refine ln_ HT (h := fun K hK => ?_)
    refine stB_step (w0 := w) (base := w.heap.size) (seg := [.int .i64 j.f0, .int .i64 j.f1, .int .i64 j.f2, .int .i64 j.f3, .int .i64 j.f4, .bool j.f5]) (cs' := [.int .i64 j.f0, .int .i64 j.f1, .int .i64 j.f2, .int .i64 j.f3, .int .i64 j.f4, .bool j.f5]) hB4 hb5 hg4 (h := fun w6 hB6 hb6 hg6 => ?_)
    refine hK.out _ _ ?_
    repeat (first | refine pn_ HT (h := ?_) | refine zn_ HT (h := ?_))
    refine dn_ HT (h := ?_)
    clear HT HW hHeld hK K
    have hB7 := blk_grown (blk_below HB.out hb5) hg6 (fun he => by have := Option.some.inj he; omega)
    have hN7 := Kd.N_mono (Kd.N_grown (N_tight flat38 (Kd.N_below HN.out hb5)) hg6 (fun k hk he => by have h1 := Kd.N_lt HN.out k hk.symm; have := Option.some.inj he; omega)) (fun k hk => HN.out.1 k hk.symm)
    have HF7 := Aside0.mk (Kd.F_grown hF5 hg6 (fun k hk he => hk.2 (Option.some.inj he)))
    have HN7 := Aside0.mk hN7
    have hbb := Below.mono hb6 hbs
    have hk6 : Kept w w6 (handS g lv) := ⟨hb6.size, fun k hk _ => hb6.block k hk⟩
    have hg4g : g ≠ g4 := by omega
    clear hF5 hN7 hb5 hB4 hg6
    obtain ⟨y0, y1, y2, y3, y4, y5, y6⟩ := bx7 hB7
    by_cases cz : js.length = 0
    · have hv := Aside0.mk (show runJ l now log js = (-1, js, log) from if_pos cz)
      have cz2 : ((js.length : Int) == 0) = true := by rw [cz]; rfl
      go_wp2
      go_ret
      exact ⟨by rw [hv.out]; rfl, lv, A3, c3, by rw [hv.out]; exact hB7, by rw [hv.out]; exact HN7.out, by rw [hv.out]; exact hjc, by rw [hv.out]; exact Kd.F_mono (Kd.F_below HJ.out hb6) (fun k hk => ⟨Or.inl hk, HOK.out k hk⟩), hbb, hk6, Or.inl rfl⟩
    · have hv := Aside0.mk (show runJ l now log js = (j.f0, js', runLog l now log j ov) by unfold runJ; rw [if_neg cz, HTR.out])
      have cz2 : ((js.length : Int) == 0) = false := by simpa using cz
      clear cz
      have hB4 := hB6
      obtain ⟨z0, z1, z2, z3, z4, z5⟩ := bx6 hB6
      go_wp2_with ((with_reducible refine gate_store (t := 78) (p := 32) (v := .tmp 29) rfl ?_); refine stB (w0 := w) (base := base) (seg := [.slice A5 js'.length c5]) (cs' := [lv, .int .i64 now, .slice A0 l.length c0, v3, v4, .slice A5 js'.length c5, v6]) hB7 hbb hg (h := fun w8 hB8 hb8 hg8 => ?_))
      have hB4' := blk_grown hB4 hg8 (fun he => hg4g (Option.some.inj he).symm)
      have HN8 := Aside0.mk (Kd.N_grown HN7.out hg8 (fun k hk he => hk (Option.some.inj he)))
      have HF8 := Aside0.mk (Kd.F_bound (Kd.F_step (W1 := w8) HF7.out (fun k hk hlt => hg8.block k hlt (fun he => by have h0 := Option.some.inj he; rcases hk.1 with h | h; exact (HOK.out k h.1).1 h0; omega))))
      clear z0 z1 z2 z3 z4 z5 y0 y1 y2 y3 y4 y5 y6
      obtain ⟨z0, z1, z2, z3, z4, z5⟩ := bx6 hB4'
      obtain ⟨y0, y1, y2, y3, y4, y5, y6⟩ := bx7 hB8
      cases ov with
      | false =>
        refine st_ 17 (fun w' => w'.cell? (⟨g4, 0, none⟩) = some (.int .i64 j.f0) ∧ Below base w w') [] hand_run.tab5 hand_run.bits5 ⟨z0, below_drew hb8⟩ (h := fun HT HW hHeld => ?_)
        repeat (first | refine pn_ HT (h := ?_) | refine tn_ HT HW hHeld (h := ?_) | refine zn_ HT (h := ?_))
        refine dn_ HT (h := ?_)
        go_wp2
        go_ret
        have hv2 : runJ l now log js = (j.f0, js', log) := hv.out
        have hk8 : Kept w w8 (handS g lv) := ⟨Nat.le_trans hk6.1 hg8.size, fun k hk hS => (hg8.block k (Nat.lt_of_lt_of_le hk hk6.1) (fun he => hS (Or.inl (Option.some.inj he)))).trans (hk6.2 k hk hS)⟩
        have hF9 := Kd.F_mono (ok' := fun k => (okJ k ∨ w.heap.size ≤ k) ∧ k ≠ g ∧ some k ≠ lv.ownBlock) HF8.out (fun k hk => ⟨hk.1.1.elim (fun h => Or.inl h.1) Or.inr, hk.1.1.elim (fun h => HOK.out k h.1) (fun h => ⟨by omega, fun he => by have h1 := Kd.N_lt HN.out k he.symm; omega⟩)⟩)
        exact ⟨by rw [hv2]; rfl, lv, A5, c5, by rw [hv2]; exact blk_drew hB8, by rw [hv2]; exact Kd.N_drew HN8.out, by rw [hv2]; exact hc5, by rw [hv2]; exact Kd.F_drew hF9, below_drew hb8, hk8, Or.inl rfl⟩
      | true =>
        obtain ⟨k, hk, hkl⟩ := tick_task HJA.out HTR.out
        have hT8 := Kd.F_grown (Kd.F_below HT0.out hb6) hg8 (fun k hk he => (HOKT.out k hk).1 (Option.some.inj he))
        obtain ⟨ad2, Ax, cx, t, hA0, ht, e0, -, -, -, -, -⟩ := el44 (Kd.F_now hT8) k hkl
        subst hA0
        have hk8 : Kept w w8 (handS g lv) := ⟨Nat.le_trans hk6.1 hg8.size, fun k hk hS => (hg8.block k (Nat.lt_of_lt_of_le hk hk6.1) (fun he => hS (Or.inl (Option.some.inj he)))).trans (hk6.2 k hk hS)⟩
        have hv2 := Aside0.mk (show runJ l now log js = (j.f0, js', noteL log now (if t.f0 < j.f3 then 5 else 4) j.f0) by
          rw [hv.out]; unfold runLog; rw [hk, Int.toNat_natCast, List.getD_eq_getElem?_getD, List.getElem?_eq_getElem hkl, Option.getD_some, ht.out]; rfl)
        rw [hk] at z0
        by_cases cw : t.f0 < j.f3
        · have hv3 := Aside0.mk (show runJ l now log js = (j.f0, js', noteL log now 5 j.f0) by rw [hv2.out, if_pos cw])
          refine st_ 17 (fun w' => w'.cell? (⟨g4, 0, none⟩) = some (.int .i64 k) ∧ w'.cell? (⟨g4, 3, none⟩) = some (.int .i64 j.f3) ∧ w'.cell? (⟨g, 2, none⟩) = some (.slice (some ad2) l.length c0) ∧ w'.cell? (ad2.add (k * 4)) = some (.int .i64 t.f0)) [] hand_run.tab5 hand_run.bits5 ⟨z0, z3, y2, e0⟩ (h := fun HT HW hHeld => ?_)
          repeat (first | refine pn_ HT (h := ?_) | refine tn_ HT HW hHeld (h := ?_) | refine zn_ HT (h := ?_))
          refine dn_ HT (h := ?_)
          clear HT HW hHeld
          have hB8' := blk_drew hB8
          have hN8' := Kd.N_drew HN8.out
          have hB4x := blk_drew hB4'
          have hF8' := Kd.F_drew HF8.out
          have hb8' := below_drew hb8
          have hk8' : Kept w w8.drew (handS g lv) := hk8
          have hsz8 : w8.heap.size = w8.drew.heap.size := rfl
          generalize w8.drew = wB at hB8' hN8' hB4x hF8' hb8' hk8' hsz8 ⊢
          clear z0 z1 z2 z3 z4 z5 y0 y1 y2 y3 y4 y5 y6 e0
          obtain ⟨z0, z1, z2, z3, z4, z5⟩ := bx6 hB4x
          go_wp2
          refine st_ 6 (fun w' => w'.cell? (⟨g4, 0, none⟩) = some (.int .i64 j.f0)) [5] hand_run.tab6 hand_run.bits6 (z0) (h := fun HT HW hHeld => ?_)
          repeat (first | refine pn_ HT (h := ?_) | refine tn_ HT HW hHeld (h := ?_) | refine zn_ HT (h := ?_))
          refine ln_ HT (h := fun K hK => ?_)
          refine cn_ ((book_note.calls base g lv log now 5 j.f0 (.slice (some ad2) l.length c0) v3 v4 (.slice A5 js'.length c5) v6 wB.drew (Nat.le_trans hbs hk8'.1) hg (blk_drew hB8') (Kd.N_drew hN8')).mono (fun e w' h => ⟨_, h.1, h.2⟩)) (R := fun _ w' => ∃ lv', w'.heap[g]? = some (.cells #[lv', .int .i64 now, .slice (some ad2) l.length c0, v3, v4, .slice A5 js'.length c5, v6] 160 (0, 0)) ∧ Kd.N k38 38 w' base (okG g) lv' (noteL log now 5 j.f0) ∧ Below base wB.drew w' ∧ Kept wB.drew w' (handS g lv) ∧ (lv'.ownBlock = lv.ownBlock ∨ ∃ b, lv'.ownBlock = some b ∧ wB.drew.heap.size ≤ b)) (h := fun v9 w9 hv9 => ?_)
          obtain ⟨lv9, hB9, hN9, hb9, hk9, hr9⟩ := hv9
          refine hK.out _ _ ?_
          refine dn_ HT (h := ?_)
          have h49 := (hk9.2 g4 (blk_lt hB4x) (fun hS => hS.elim (fun h => hg4g h.symm) (fun h => by have h1 := Kd.N_lt HN.out g4 h.symm; omega))).trans hB4x
          clear z0 z1 z2 z3 z4 z5
          obtain ⟨z0, z1, z2, z3, z4, z5⟩ := bx6 h49
          go_wp2
          go_ret
          have hF9 := Kd.F_bound (Kd.F_kept (Kd.F_drew hF8') hk9 (fun q hq hS => by rcases hS with hS | hS; (rcases hq.1.1 with h | h; exact (HOK.out q h.1).1 hS; omega); (rcases hq.1.1 with h | h; exact (HOK.out q h.1).2 hS; exact absurd (Kd.N_lt HN.out q hS.symm) (by omega))))
          have hsw : w.heap.size ≤ wB.drew.heap.size := hk8'.1
          have hF10 : Kd.F k182 w9 (fun q => (okJ q ∨ w.heap.size ≤ q) ∧ q ≠ g ∧ some q ≠ lv9.ownBlock) A5 js'.length js' := Kd.F_mono hF9 (fun q hq => by
            have hq2 : q < wB.drew.heap.size := hsz8 ▸ hq.1.2
            refine ⟨hq.1.1.1.elim (fun h => Or.inl h.1) Or.inr, hq.1.1.1.elim (fun h => (HOK.out q h.1).1) (fun h => by omega), fun he => ?_⟩
            rcases hr9 with h1 | ⟨b, h1, h2⟩
            · rw [h1] at he
              rcases hq.1.1.1 with h | h
              · exact (HOK.out q h.1).2 he
              · exact absurd (Kd.N_lt HN.out q he.symm) (by omega)
            · rw [h1] at he; have := Option.some.inj he; omega)
          refine ⟨by rw [hv3.out]; show _ = Ending.returned (.int .i64 j.f0); rw [hk]; rfl, lv9, A5, c5, by rw [hv3.out]; exact hB9, by rw [hv3.out]; exact hN9, by rw [hv3.out]; exact hc5, by rw [hv3.out]; exact hF10, Below.trans (below_drew hb8') hb9, ⟨Nat.le_trans hsw hk9.1, fun q hq hS => (hk9.2 q (Nat.lt_of_lt_of_le hq hsw) hS).trans (hk8'.2 q hq hS)⟩, hr9.elim Or.inl (fun ⟨b, h1, h2⟩ => Or.inr ⟨b, h1, Nat.le_trans hsw h2⟩)⟩
        · have hv3 := Aside0.mk (show runJ l now log js = (j.f0, js', noteL log now 4 j.f0) by rw [hv2.out, if_neg cw])
          refine st_ 17 (fun w' => w'.cell? (⟨g4, 0, none⟩) = some (.int .i64 k) ∧ w'.cell? (⟨g4, 3, none⟩) = some (.int .i64 j.f3) ∧ w'.cell? (⟨g, 2, none⟩) = some (.slice (some ad2) l.length c0) ∧ w'.cell? (ad2.add (k * 4)) = some (.int .i64 t.f0)) [] hand_run.tab5 hand_run.bits5 ⟨z0, z3, y2, e0⟩ (h := fun HT HW hHeld => ?_)
          repeat (first | refine pn_ HT (h := ?_) | refine tn_ HT HW hHeld (h := ?_) | refine zn_ HT (h := ?_))
          refine dn_ HT (h := ?_)
          clear HT HW hHeld
          have hB8' := blk_drew hB8
          have hN8' := Kd.N_drew HN8.out
          have hB4x := blk_drew hB4'
          have hF8' := Kd.F_drew HF8.out
          have hb8' := below_drew hb8
          have hk8' : Kept w w8.drew (handS g lv) := hk8
          have hsz8 : w8.heap.size = w8.drew.heap.size := rfl
          generalize w8.drew = wB at hB8' hN8' hB4x hF8' hb8' hk8' hsz8 ⊢
          clear z0 z1 z2 z3 z4 z5 y0 y1 y2 y3 y4 y5 y6 e0
          obtain ⟨z0, z1, z2, z3, z4, z5⟩ := bx6 hB4x
          go_wp2
          refine st_ 6 (fun w' => w'.cell? (⟨g4, 0, none⟩) = some (.int .i64 j.f0)) [5] hand_run.tab8 hand_run.bits8 (z0) (h := fun HT HW hHeld => ?_)
          repeat (first | refine pn_ HT (h := ?_) | refine tn_ HT HW hHeld (h := ?_) | refine zn_ HT (h := ?_))
          refine ln_ HT (h := fun K hK => ?_)
          refine cn_ ((book_note.calls base g lv log now 4 j.f0 (.slice (some ad2) l.length c0) v3 v4 (.slice A5 js'.length c5) v6 wB.drew (Nat.le_trans hbs hk8'.1) hg (blk_drew hB8') (Kd.N_drew hN8')).mono (fun e w' h => ⟨_, h.1, h.2⟩)) (R := fun _ w' => ∃ lv', w'.heap[g]? = some (.cells #[lv', .int .i64 now, .slice (some ad2) l.length c0, v3, v4, .slice A5 js'.length c5, v6] 160 (0, 0)) ∧ Kd.N k38 38 w' base (okG g) lv' (noteL log now 4 j.f0) ∧ Below base wB.drew w' ∧ Kept wB.drew w' (handS g lv) ∧ (lv'.ownBlock = lv.ownBlock ∨ ∃ b, lv'.ownBlock = some b ∧ wB.drew.heap.size ≤ b)) (h := fun v9 w9 hv9 => ?_)
          obtain ⟨lv9, hB9, hN9, hb9, hk9, hr9⟩ := hv9
          refine hK.out _ _ ?_
          refine dn_ HT (h := ?_)
          have h49 := (hk9.2 g4 (blk_lt hB4x) (fun hS => hS.elim (fun h => hg4g h.symm) (fun h => by have h1 := Kd.N_lt HN.out g4 h.symm; omega))).trans hB4x
          clear z0 z1 z2 z3 z4 z5
          obtain ⟨z0, z1, z2, z3, z4, z5⟩ := bx6 h49
          go_wp2
          go_ret
          have hF9 := Kd.F_bound (Kd.F_kept (Kd.F_drew hF8') hk9 (fun q hq hS => by rcases hS with hS | hS; (rcases hq.1.1 with h | h; exact (HOK.out q h.1).1 hS; omega); (rcases hq.1.1 with h | h; exact (HOK.out q h.1).2 hS; exact absurd (Kd.N_lt HN.out q hS.symm) (by omega))))
          have hsw : w.heap.size ≤ wB.drew.heap.size := hk8'.1
          have hF10 : Kd.F k182 w9 (fun q => (okJ q ∨ w.heap.size ≤ q) ∧ q ≠ g ∧ some q ≠ lv9.ownBlock) A5 js'.length js' := Kd.F_mono hF9 (fun q hq => by
            have hq2 : q < wB.drew.heap.size := hsz8 ▸ hq.1.2
            refine ⟨hq.1.1.1.elim (fun h => Or.inl h.1) Or.inr, hq.1.1.1.elim (fun h => (HOK.out q h.1).1) (fun h => by omega), fun he => ?_⟩
            rcases hr9 with h1 | ⟨b, h1, h2⟩
            · rw [h1] at he
              rcases hq.1.1.1 with h | h
              · exact (HOK.out q h.1).2 he
              · exact absurd (Kd.N_lt HN.out q he.symm) (by omega)
            · rw [h1] at he; have := Option.some.inj he; omega)
          refine ⟨by rw [hv3.out]; show _ = Ending.returned (.int .i64 j.f0); rw [hk]; rfl, lv9, A5, c5, by rw [hv3.out]; exact hB9, by rw [hv3.out]; exact hN9, by rw [hv3.out]; exact hc5, by rw [hv3.out]; exact hF10, Below.trans (below_drew hb8') hb9, ⟨Nat.le_trans hsw hk9.1, fun q hq hS => (hk9.2 q (Nat.lt_of_lt_of_le hq hsw) hS).trans (hk8'.2 q hq hS)⟩, hr9.elim Or.inl (fun ⟨b, h1, h2⟩ => Or.inr ⟨b, h1, Nat.le_trans hsw h2⟩)⟩
abbrev okH (ok : Nat → Prop) (base g : Nat) (lv : Value) : Nat → Prop := fun k => (ok k ∨ base ≤ k) ∧ k ≠ g ∧ some k ≠ lv.ownBlock
section
variable {α : Type} {d : Kd α} {ok : Nat → Prop} {base g n : Nat} {lv lv' : Value} {w w' : World} {A : Option Addr} {xs : List α}
theorem H_note (h : Kd.F d w (okH ok base g lv) A n xs) (hk : Kept w w' (handS g lv)) (hr : lv'.ownBlock = lv.ownBlock ∨ ∃ b, lv'.ownBlock = some b ∧ w.heap.size ≤ b) : Kd.F d w' (okH ok base g lv') A n xs :=
  Kd.F_mono (Kd.F_kept (Kd.F_bound h) hk (fun k hk hS => hS.elim hk.1.2.1 hk.1.2.2)) (fun k hk => ⟨hk.1.1, hk.1.2.1, fun he => by
    rcases hr with h1 | ⟨b, h1, h2⟩
    · rw [h1] at he; exact hk.1.2.2 he
    · rw [h1] at he; have := Option.some.inj he; omega⟩)
theorem H_new {e : Nat} {c : Nat} {log : List S38} (h : Kd.N d e w' w.heap.size (nwb (okH ok base g lv) w) (.slice A n c) xs) (hbs : base ≤ w.heap.size) (hg : g < w.heap.size) (hN : Kd.N k38 38 w base (okG g) lv log) : Kd.F d w' (okH ok base g lv) A n xs :=
  Kd.F_mono (Kd.N_F h) (fun k hk => hk.elim (fun h => h.1) (fun h => ⟨Or.inr (Nat.le_trans hbs h), by omega, fun he => by have := Kd.N_lt hN k he.symm; omega⟩))
end
def leaveL (now : Int) : Nat → List S44 × List Bool × List Int × List S38 → List S44 × List Bool × List Int × List S38
  | 0, s => s
  | i + 1, s => if s.2.1.getD i false then leaveL now i (outL s.1 i, outL s.2.1 i, outL s.2.2.1 i, noteL s.2.2.2 now 7 i) else leaveL now i s
end Go.Proofs.YtmngaagojkihbaaGreat.FTop
