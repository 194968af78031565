/- Contracts of functions that the statement TopMeets reaches, and plain lemmas. No condition. -/
import Derived.Test.YtmngaagojkihbaaGreatY06
import Derived.Test.YtmngaagojkihbaaGreatY04
namespace Go.Proofs.YtmngaagojkihbaaGreat.FTop
open Go.RowKit Go.Proofs.YtmngaagojkihbaaGreatW.PrintWords Go.Proofs.YtmngaagojkihbaaGreatW.PrintLast Go.Proofs.YtmngaagojkihbaaGreatW.PrintMore
attribute [local go_sem] max2_int min2_int max_two min_two
set_option linter.unusedVariables false
set_option linter.unusedSimpArgs false
set_option maxHeartbeats 8000000
set_option maxRecDepth 100000
def hand_miss.T4 : Bool × List (List Nat × List Nat) := (true, [([], []), ([0], [0]), ([], []), ([2], [2]), ([3], [3]), ([4], [4]), ([5], [5]), ([1, 6], [1, 6])])
def hand_miss.B4 : List Nat := [0, 1, 0, 4, 12, 28, 60, 127]
theorem hand_miss.tab4 : rtab .any (opsOf Tryz.f76 4) = hand_miss.T4 := by kernel_rfl
theorem hand_miss.bits4 : waitsOk hand_miss.T4.2 hand_miss.B4 = true := by kernel_rfl
def hand_miss.T6 : Bool × List (List Nat × List Nat) := (true, [([], []), ([0], [0]), ([1], [1]), ([], []), ([3], [3]), ([2, 4], [2, 4])])
def hand_miss.B6 : List Nat := [0, 1, 3, 0, 8, 31]
theorem hand_miss.tab6 : rtab .any (opsOf Tryz.f76 6) = hand_miss.T6 := by kernel_rfl
theorem hand_miss.bits6 : waitsOk hand_miss.T6.2 hand_miss.B6 = true := by kernel_rfl
theorem N_tight {α : Type} {d : Kd α} {e base : Nat} {w : World} {ok : Nat → Prop} {v : Value} {xs : List α} (hf : ∀ W ok1 ok2 x c, Kd.FK d W ok1 x c → Kd.FK d W ok2 x c) (h : Kd.N d e w base ok v xs) : Kd.N d e w base (fun k => some k = v.ownBlock) v xs := by
  obtain ⟨h0, rows, hl, hR, hr⟩ := h
  exact ⟨fun k hk => hk.symm, rows, hl, hR, fun j x c hx hc => hf _ _ _ _ _ (hr j x c hx hc)⟩
theorem flat38 (W : World) (ok1 ok2 : Nat → Prop) (x : S38) (c : List Value) (h : Kd.FK k38 W ok1 x c) : Kd.FK k38 W ok2 x c := by rw [k38_open (Kd.FK_now h)]; exact k38_mkF _ _ _
theorem flat182 (W : World) (ok1 ok2 : Nat → Prop) (x : S182) (c : List Value) (h : Kd.FK k182 W ok1 x c) : Kd.FK k182 W ok2 x c := by rw [k182_open (Kd.FK_now h)]; exact k182_mkF _ _ _
theorem own_ne2 {α β : Type} {d : Kd α} {d' : Kd β} {e e' b b' : Nat} {w : World} {ok ok' : Nat → Prop} {v v' : Value} {xs : List α} {ys : List β} (h : Kd.N d e w b ok v xs) (h' : Kd.N d' e' w b' ok' v' ys) (hne : e ≠ e') (k : Nat) (hk : some k = v.ownBlock) : some k ≠ v'.ownBlock := fun hk' => by
  obtain ⟨c, hc⟩ := Kd.N_typed h k hk.symm
  obtain ⟨c', hc'⟩ := Kd.N_typed h' k hk'.symm
  rw [hc] at hc'
  injection hc' with hc'
  injection hc' with _ he _
  exact hne he
def missL (now : Int) (js : List S182) : List S182 := js.filter (fun j => decide (now < j.f2))
def missLog (now : Int) (log : List S38) : List S182 → List S38 := List.foldl (fun lg j => if now < j.f2 then lg else noteL lg now 6 j.f0) log
theorem hand_miss.calls (base g : Nat) (lv : Value) (log : List S38) (now : Int) (js : List S182) (A3 : Option Addr) (c3 : Nat) (v2 v3 v4 v6 : Value) (okJ : Nat → Prop) (w : World) (hbs : base ≤ w.heap.size) (hg : base ≤ g)
    (hB : w.heap[g]? = some (.cells #[lv, .int .i64 now, v2, v3, v4, .slice A3 js.length c3, v6] 160 (0, 0))) (hN : Kd.N k38 38 w base (okG g) lv log) (hJ : Kd.F k182 w okJ A3 js.length js) (hjc : js.length ≤ c3) (hj : js.length ≤ 1000) (hok : ∀ k, okJ k → k ≠ g ∧ some k ≠ lv.ownBlock) :
    Calls Tryz.prog 76 #[.pointer (some ⟨g, 0, none⟩)] w fun e w' => e = .returned (.tuple #[]) ∧ ∃ lv' A' c', w'.heap[g]? = some (.cells #[lv', .int .i64 now, v2, v3, v4, .slice A' (missL now js).length c', v6] 160 (0, 0)) ∧ Kd.N k38 38 w' base (okG g) lv' (missLog now log js) ∧ (missL now js).length ≤ c' ∧
      Kd.F k182 w' (fun k => w.heap.size ≤ k ∧ some k ≠ lv'.ownBlock) A' (missL now js).length (missL now js) ∧ Below base w w' ∧ Kept w w' (handS g lv) ∧ (lv'.ownBlock = lv.ownBlock ∨ ∃ b, lv'.ownBlock = some b ∧ w.heap.size ≤ b) := by
  have hu := Tryz.underlying182
  have HB := Aside0.mk hB
  have HN := Aside0.mk hN
  have HJ := Aside0.mk (Kd.F_bound hJ)
  have HOK := Aside0.mk hok
  have hgl := blk_lt hB
  have x5 : w.cell? ⟨g, 5, none⟩ = some (.slice A3 js.length c3) := by rw [blk_cell hB]; rfl
  clear hB hN hJ hok
  go_enter Tryz.func76, Tryz.ntmps76
  go_wp2
  clear x5
  go_loopg [2, 11] js.length (fun k vl v11 wr => ∃ (i : Nat) (lv1 : Value), i + k = js.length ∧ v11 = .int .i64 i ∧ wr.heap[g]? = some (.cells #[lv1, .int .i64 now, v2, v3, v4, .slice A3 js.length c3, v6] 160 (0, 0)) ∧ Kd.N k38 38 wr base (okG g) lv1 (missLog now log (js.take i)) ∧
    Kd.N k182 182 wr w.heap.size (fun k => w.heap.size ≤ k) vl (missL now (js.take i)) ∧ Below base w wr ∧ Kept w wr (handS g lv) ∧ (lv1.ownBlock = lv.ownBlock ∨ ∃ b, lv1.ownBlock = some b ∧ w.heap.size ≤ b))
  case atStart => exact ⟨0, lv, by omega, rfl, HB.out, HN.out, Kd.N_nil _ _ _ _ _, Below.refl _ _, ⟨Nat.le_refl _, fun _ _ _ => rfl⟩, Or.inl rfl⟩
  case round =>
    obtain ⟨i, lv1, hi, rfl, hB1, hN1, hL1, hb1, hk1, hr1⟩ := hrel
    have HN1 := Aside0.mk hN1
    have HL1 := Aside0.mk hL1
    have HK1 := Aside0.mk hk1
    have HR1 := Aside0.mk hr1
    clear hN1 hL1 hr1
    by_cases ci : i < js.length
    · have hF1 := Kd.F_kept HJ.out hk1 (fun k hk hS => by rcases hS with hS | hS; exact (HOK.out k hk.1).1 hS; exact (HOK.out k hk.1).2 hS)
      obtain ⟨ad, x, rfl, hx, h0, h1, h2, h3, h4, h5⟩ := el182 (Kd.F_now hF1) i ci
      clear hF1
      have hB2 := blk_al hB1 (.cells #[.int .i64 x.f0, .int .i64 x.f1, .int .i64 x.f2, .int .i64 x.f3, .int .i64 x.f4, .bool x.f5] 182)
      have hX := blk_new wr (.cells #[.int .i64 x.f0, .int .i64 x.f1, .int .i64 x.f2, .int .i64 x.f3, .int .i64 x.f4, .bool x.f5] 182)
      obtain ⟨z0, z1, z2, z3, z4, z5⟩ := bx6 hX
      have y1 : (wr.alloc (.cells #[.int .i64 x.f0, .int .i64 x.f1, .int .i64 x.f2, .int .i64 x.f3, .int .i64 x.f4, .bool x.f5] 182)).cell? ⟨g, 1, none⟩ = some (.int .i64 now) := by rw [blk_cell hB2]; rfl
      have hbw2 := below_drew (Below.alloc hb1 (Nat.le_trans hbs hk1.1) (.cells #[.int .i64 x.f0, .int .i64 x.f1, .int .i64 x.f2, .int .i64 x.f3, .int .i64 x.f4, .bool x.f5] 182))
      have hN2 := Kd.N_drew (Kd.N_alloc HN1.out (.cells #[.int .i64 x.f0, .int .i64 x.f1, .int .i64 x.f2, .int .i64 x.f3, .int .i64 x.f4, .bool x.f5] 182))
      have hL2 := Kd.N_drew (Kd.N_alloc HL1.out (.cells #[.int .i64 x.f0, .int .i64 x.f1, .int .i64 x.f2, .int .i64 x.f3, .int .i64 x.f4, .bool x.f5] 182))
      have hk2 : Kept w (wr.alloc (.cells #[.int .i64 x.f0, .int .i64 x.f1, .int .i64 x.f2, .int .i64 x.f3, .int .i64 x.f4, .bool x.f5] 182)).drew (handS g lv) := ⟨by have h1 : (wr.alloc (.cells #[.int .i64 x.f0, .int .i64 x.f1, .int .i64 x.f2, .int .i64 x.f3, .int .i64 x.f4, .bool x.f5] 182)).drew.heap.size = wr.heap.size + 1 := alsz; have := hk1.1; omega, fun k hk hS => (Below.heap_alloc wr (.cells #[.int .i64 x.f0, .int .i64 x.f1, .int .i64 x.f2, .int .i64 x.f3, .int .i64 x.f4, .bool x.f5] 182) k (Nat.lt_of_lt_of_le hk hk1.1)).trans (hk1.2 k hk hS)⟩
      have hq := Aside0.mk (show missL now (js.take (i + 1)) = missL now (js.take i) ++ if now < x.f2 then [x] else [] by
        unfold missL; rw [List.take_succ_eq_append_getElem ci, List.filter_append, hx.out]; by_cases h : now < x.f2 <;> simp [h])
      have hql := Aside0.mk (show missLog now log (js.take (i + 1)) = if now < x.f2 then missLog now log (js.take i) else noteL (missLog now log (js.take i)) now 6 x.f0 by
        unfold missLog; rw [List.take_succ_eq_append_getElem ci, List.foldl_append, hx.out]; rfl)
      have hml : (missL now (js.take i)).length ≤ 1000 := Nat.le_trans (List.length_filter_le _ _) (by rw [List.length_take]; omega)
      go_wp2
      refine st_ 8 (fun w' => w'.cell? (⟨wr.heap.size, 2, none⟩) = some (.int .i64 x.f2) ∧ w'.cell? (⟨g, 1, none⟩) = some (.int .i64 now)) [] hand_miss.tab4 hand_miss.bits4 ⟨z2, y1⟩ (h := fun HT HW hHeld => ?_)
      repeat (first | refine pn_ HT (h := ?_) | refine tn_ HT HW hHeld (h := ?_) | refine zn_ HT (h := ?_))
      refine dn_ HT (h := ?_)
      have hX' := blk_drew hX
      have hB2' := blk_drew hB2
      clear HT HW hHeld z0 z1 z2 z3 z4 z5 y1 hX hB2
      generalize (wr.alloc (.cells #[.int .i64 x.f0, .int .i64 x.f1, .int .i64 x.f2, .int .i64 x.f3, .int .i64 x.f4, .bool x.f5] 182)).drew = wA at hbw2 hN2 hL2 hk2 hX' hB2' ⊢
      generalize wr.heap.size = gx at hX' ⊢
      obtain ⟨z0, z1, z2, z3, z4, z5⟩ := bx6 hX'
      generalize missL now (js.take i) = left at hL2 hq hml HL1
      generalize missLog now log (js.take i) = lg at hN2 hql HN1
      have HN2 := Aside0.mk hN2
      have HL2 := Aside0.mk hL2
      have HBW := Aside0.mk hbw2
      have HK2 := Aside0.mk hk2
      clear hN2 hL2 hbw2
      have hsz := hk2.1
      clear hk2
      by_cases cn : now < x.f2
      · go_wp2_with ((with_reducible refine gate_builtin (b := .append) (xs := #[.tmp 23, .tmp 25]) rfl ?_); at_builtin; refine apN row182 (w0 := wA) (cs := [.int .i64 x.f0, .int .i64 x.f1, .int .i64 x.f2, .int .i64 x.f3, .int .i64 x.f4, .bool x.f5]) (p := x) (okp := fun _ => False) HL2.out (k182_mkF _ _ x) (fun k hk => hk.elim) (fun k hk => by omega) (Below.refl _ _) hsz (by omega) (h := fun v7 w7 hN7 hb7 hg7 hat7 => ?_))
        go_roundg (js.length - i - 1)
        case measure => omega
        case rel =>
          refine ⟨i + 1, lv1, by omega, by go_num, blk_grown hB2' hg7 (Kd.N_away HL2.out (fun k hk => by omega)), ?_, by rw [hq.out, if_pos cn]; exact hN7, ?_, ?_, HR1.out⟩
          · rw [hql.out, if_pos cn]
            exact Kd.N_mono (Kd.N_grown (N_tight flat38 HN2.out) hg7 (fun k hk => own_ne2 HN2.out HL2.out (by decide) k hk)) (fun k hk => HN2.out.1 k hk.symm)
          · exact Below.trans HBW.out (Below.mono hb7 hbs)
          · exact ⟨Nat.le_trans HK2.out.1 hg7.size, fun k hk hS => (hg7.block k (Nat.lt_of_lt_of_le hk HK2.out.1) (ne_own HL2.out hk)).trans (HK2.out.2 k hk hS)⟩
      · go_wp2
        have hlt : g < wA.heap.size := blk_lt hB2'
        refine st_ 6 (fun w' => w'.cell? (⟨gx, 0, none⟩) = some (.int .i64 x.f0)) [5] hand_miss.tab6 hand_miss.bits6 (z0) (h := fun HT HW hHeld => ?_)
        repeat (first | refine pn_ HT (h := ?_) | refine tn_ HT HW hHeld (h := ?_) | refine zn_ HT (h := ?_))
        refine ln_ HT (h := fun K hK => ?_)
        refine cn_ ((book_note.calls base g lv1 lg now 6 x.f0 v2 v3 v4 (.slice (some ad) js.length c3) v6 wA.drew (by show base ≤ wA.heap.size; omega) hg (blk_drew hB2') (Kd.N_drew HN2.out)).mono (fun e w' h => ⟨_, h.1, h.2⟩)) (R := fun _ w' => ∃ lv', w'.heap[g]? = some (.cells #[lv', .int .i64 now, v2, v3, v4, .slice (some ad) js.length c3, v6] 160 (0, 0)) ∧ Kd.N k38 38 w' base (okG g) lv' (noteL lg now 6 x.f0) ∧ Below base wA.drew w' ∧ Kept wA.drew w' (handS g lv1) ∧ (lv'.ownBlock = lv1.ownBlock ∨ ∃ b, lv'.ownBlock = some b ∧ wA.drew.heap.size ≤ b)) (h := fun v7 w7 hv7 => ?_)
        obtain ⟨lv7, hB7, hN7, hb7, hk7, hr7⟩ := hv7
        refine hK.out _ _ ?_
        refine dn_ HT (h := ?_)
        go_wp2
        go_roundg (js.length - i - 1)
        case measure => omega
        case rel =>
          have hs7 : wA.heap.size ≤ w7.heap.size := hk7.1
          refine ⟨i + 1, lv7, by omega, by go_num, hB7, by rw [hql.out, if_neg (show ¬ now < x.f2 by omega)]; exact hN7, ?_, ?_, ?_, ?_⟩
          · rw [hq.out, if_neg (show ¬ now < x.f2 by omega), List.append_nil]
            refine Kd.N_mono (Kd.N_kept (Kd.N_drew (N_tight flat182 HL2.out)) hk7 (fun k hk hS => ?_)) (fun k hk => HL2.out.1 k hk.symm)
            have h1 := HL2.out.1 k hk.symm
            rcases hS with hS | hS
            · omega
            · exact own_ne2 HN2.out HL2.out (by decide) k hS hk
          · exact Below.trans (below_drew HBW.out) hb7
          · refine ⟨Nat.le_trans HK2.out.1 hs7, fun k hk hS => (hk7.2 k (Nat.lt_of_lt_of_le hk HK2.out.1) (fun hS1 => ?_)).trans (HK2.out.2 k hk hS)⟩
            rcases hS1 with hS1 | hS1
            · exact hS (Or.inl hS1)
            · rcases HR1.out with h1 | ⟨b, h1, h2⟩
              · exact hS (Or.inr (hS1.trans h1))
              · rw [h1] at hS1; have := Option.some.inj hS1; omega
          · rcases hr7 with h1 | ⟨b, h1, h2⟩
            · rw [h1]; exact HR1.out
            · exact Or.inr ⟨b, h1, Nat.le_trans HK2.out.1 h2⟩
    · have : i = js.length := by omega
      subst this
      have e1 : missL now (js.take js.length) = missL now js := by rw [List.take_length]
      have e2 : missLog now log (js.take js.length) = missLog now log js := by rw [List.take_length]
      have hN2 := HN1.out
      have hL2 := HL1.out
      rw [e2] at hN2
      rw [e1] at hL2
      obtain ⟨A7, c7, rfl⟩ := Kd.N_slice hL2
      have hlc := (Kd.N_reads' hL2).2.1
      have hgl2 := blk_lt hB1
      have HN2 := Aside0.mk hN2
      have HL2 := Aside0.mk hL2
      clear hN2 hL2 e1 e2 HN1 HL1
      go_wp2_with ((with_reducible refine gate_store (t := 78) (p := 38) (v := .tmp 35) rfl ?_); refine stB (w0 := w) (base := base) (seg := [.slice A7 (missL now js).length c7]) (cs' := [lv1, .int .i64 now, v2, v3, v4, .slice A7 (missL now js).length c7, v6]) hB1 hb1 hg (h := fun w7 hB7 hb7 hg7 => ?_))
      go_end0
      refine ⟨rfl, lv1, A7, c7, hB7, Kd.N_grown HN2.out hg7 (fun k hk he => hk (Option.some.inj he)), hlc, ?_, hb7, ?_, HR1.out⟩
      · have hL7 := Kd.N_grown (N_tight flat182 HL2.out) hg7 (fun k hk he => by have h1 := HL2.out.1 k hk.symm; have := Option.some.inj he; omega)
        exact Kd.N_F (Kd.N_mono hL7 (fun k hk => ⟨HL2.out.1 k hk.symm, fun hk' => own_ne2 HN2.out HL2.out (by decide) k hk' hk⟩))
      · exact ⟨Nat.le_trans HK1.out.1 hg7.size, fun k hk hS => (hg7.block k (Nat.lt_of_lt_of_le hk HK1.out.1) (fun he => hS (Or.inl (Option.some.inj he)))).trans (HK1.out.2 k hk hS)⟩
end Go.Proofs.YtmngaagojkihbaaGreat.FTop
namespace Go.Proofs.YtmngaagojkihbaaGreatW.PrintLast
open Go.RowKit Go.Proofs.YtmngaagojkihbaaGreatW.PrintWords
set_option linter.unusedVariables false
section
variable {P : Program} {ops : Array Oper} {Q : Exit → Act → World → Prop} {md : Region.Mode} {S : World → Prop} {ds : List Nat} {T : Bool × List (List Nat × List Nat)}
theorem tw_ (i j : Nat) {Ni Nj : Option Tmp} {li lj : Array Bool} {oi oj : Oper} {fuel : Nat} {l : Array Bool} {a : Act} {w : World} (hT : Aside0 (rtab md ops = T))
    (hli : l.setIfInBounds i true = li := by (simp only [sbA, sbB, sbC]; rfl)) (hlj : l.setIfInBounds j true = lj := by (simp only [sbA, sbB, sbC]; rfl))
    (hi : ops[i]? = some oi := by exact rfl) (hj : ops[j]? = some oj := by exact rfl) (hNi : oi.dst = Ni := by exact rfl) (hNj : oj.dst = Nj := by exact rfl)
    (hc : (readyT T.2 l.toList == [i, j] && l.toList.set i true == li.toList && l.toList.set j true == lj.toList) = true := by kernel_rfl) (hdi : i ∉ ds := by decide) (hdj : j ∉ ds := by decide)
    (h1 : ∀ K : Act → World → Prop, Shut (∀ a' w', S w' → (S w' → wpAnyLast P md ops Q S ds fuel li a' w') → K a' w') → if Region.wanted oi (yielded ops a.tmps) = true then Oper.wp P oi a w K Q else K (a.put Ni undef) w)
    (h2 : ∀ K : Act → World → Prop, Shut (∀ a' w', S w' → (S w' → wpAnyLast P md ops Q S ds fuel lj a' w') → K a' w') → if Region.wanted oj (yielded ops a.tmps) = true then Oper.wp P oj a w K Q else K (a.put Nj undef) w) :
    wpAnyLast P md ops Q S ds (fuel + 1) l a w :=
  two_ li lj hi hj hNi hNj (two_of hT.out hc) hdi hdj h1 h2
end
end Go.Proofs.YtmngaagojkihbaaGreatW.PrintLast
namespace Go.Proofs.YtmngaagojkihbaaGreat.FTop
open Go.RowKit Go.Proofs.YtmngaagojkihbaaGreatW.PrintWords Go.Proofs.YtmngaagojkihbaaGreatW.PrintLast Go.Proofs.YtmngaagojkihbaaGreatW.PrintMore
attribute [local go_sem] max2_int min2_int max_two min_two
set_option linter.unusedVariables false
set_option linter.unusedSimpArgs false
set_option maxHeartbeats 8000000
set_option maxRecDepth 100000
def hand_run.T1 : Bool × List (List Nat × List Nat) := (true, [([], []), ([0], [0]), ([1], [1]), ([2], [2]), ([3], [3]), ([], []), ([5], [5]), ([6], [6]), ([7], [7]), ([8], [8]), ([4, 9], [4, 9]), ([10], [10]), ([11], [11]), ([11], [11]), ([11], [11]), ([], []), ([12, 10, 0, 1, 2, 3, 4, 5, 6, 7, 8, 9, 10, 11, 12, 15], [12]), ([15, 13, 16, 0, 1, 2, 3, 4, 5, 6, 7, 8, 9, 10, 11, 12, 13, 15, 16], [13, 15]), ([14, 17, 0, 1, 2, 3, 4, 5, 6, 7, 8, 9, 10, 11, 12, 13, 14, 15, 16, 17], [14])])
def hand_run.B1 : List Nat := [0, 1, 3, 7, 15, 0, 32, 96, 224, 480, 1023, 2047, 4095, 4095, 4095, 0, 40959, 114687, 262143]
theorem hand_run.tab1 : rtab .any (opsOf Tryz.f77 1) = hand_run.T1 := by kernel_rfl
theorem hand_run.bits1 : waitsOk hand_run.T1.2 hand_run.B1 = true := by kernel_rfl
def hand_run.T5 : Bool × List (List Nat × List Nat) := (true, [([], []), ([0], [0]), ([1], [1]), ([2, 1], [1, 2]), ([1], [1]), ([4, 1], [1, 4]), ([5, 1], [1, 5]), ([6, 1], [1, 6]), ([7, 1], [1, 7]), ([1], [1]), ([9, 1], [1, 9]), ([8, 10, 1], [1, 8, 10]), ([11, 1], [1, 11]), ([12, 1], [1, 12]), ([3, 13, 1], [1, 3, 13]), ([1, 14], [1, 14]), ([15, 1], [15])])
def hand_run.B5 : List Nat := [0, 1, 3, 7, 3, 19, 51, 115, 243, 3, 515, 2035, 4083, 8179, 16383, 32767, 65535]
theorem hand_run.tab5 : rtab .any (opsOf Tryz.f77 5) = hand_run.T5 := by kernel_rfl
theorem hand_run.bits5 : waitsOk hand_run.T5.2 hand_run.B5 = true := by kernel_rfl
def hand_run.T6 : Bool × List (List Nat × List Nat) := (true, [([], []), ([0], [0]), ([1], [1]), ([], []), ([3], [3]), ([2, 4], [2, 4])])
def hand_run.B6 : List Nat := [0, 1, 3, 0, 8, 31]
theorem hand_run.tab6 : rtab .any (opsOf Tryz.f77 6) = hand_run.T6 := by kernel_rfl
theorem hand_run.bits6 : waitsOk hand_run.T6.2 hand_run.B6 = true := by kernel_rfl
def hand_run.T8 : Bool × List (List Nat × List Nat) := (true, [([], []), ([0], [0]), ([1], [1]), ([], []), ([3], [3]), ([2, 4], [2, 4])])
def hand_run.B8 : List Nat := [0, 1, 3, 0, 8, 31]
theorem hand_run.tab8 : rtab .any (opsOf Tryz.f77 8) = hand_run.T8 := by kernel_rfl
theorem hand_run.bits8 : waitsOk hand_run.T8.2 hand_run.B8 = true := by kernel_rfl
def runLog (l : List S44) (now : Int) (log : List S38) (j : S182) (ov : Bool) : List S38 := if ov then noteL log now (if (l.getD j.f0.toNat z44).f0 < j.f3 then 5 else 4) j.f0 else log
def runJ (l : List S44) (now : Int) (log : List S38) (js : List S182) : Int × List S182 × List S38 :=
  if js.length = 0 then (-1, js, log) else ((tickJ l js).2.1.f0, (tickJ l js).1, runLog l now log (tickJ l js).2.1 (tickJ l js).2.2)
theorem tick_task {l : List S44} {js js' : List S182} {j : S182} (hja : jobA l js = true) (h : tickJ l js = (js', j, true)) : ∃ k : Nat, j.f0 = k ∧ k < l.length := by
  unfold tickJ at h
  have hb := chooseI_bd l js
  split at h
  · simp at h
  · have hp : (chooseI l js).toNat < js.length := by omega
    have h1 : had1 (js.getD (chooseI l js).toNat z182) = j := (Prod.mk.inj (Prod.mk.inj h).2).1
    obtain ⟨k, hk, hkl⟩ := jobR_task (jobA_job hja hp)
    refine ⟨k, ?_, hkl⟩
    rw [← h1, ← hk, List.getD_eq_getElem?_getD, List.getElem?_eq_getElem hp]
    rfl
theorem hand_run.calls (base g : Nat) (lv : Value) (log : List S38) (now : Int) (l : List S44) (A0 : Option Addr) (c0 : Nat) (js : List S182) (A3 : Option Addr) (c3 : Nat) (v3 v4 v6 : Value) (okJ okT : Nat → Prop) (w : World) (hbs : base ≤ w.heap.size) (hg : base ≤ g)
    (hB : w.heap[g]? = some (.cells #[lv, .int .i64 now, .slice A0 l.length c0, v3, v4, .slice A3 js.length c3, v6] 160 (0, 0))) (hN : Kd.N k38 38 w base (okG g) lv log) (hT : Kd.F k44 w okT A0 l.length l) (hJ : Kd.F k182 w okJ A3 js.length js) (hlc : l.length ≤ c0) (hjc : js.length ≤ c3) (hja : jobA l js = true)
    (hokT : ∀ k, okT k → k ≠ g ∧ some k ≠ lv.ownBlock) (hok : ∀ k, okJ k → k ≠ g ∧ some k ≠ lv.ownBlock) :
    Calls Tryz.prog 77 #[.pointer (some ⟨g, 0, none⟩)] w fun e w' => e = .returned (.int .i64 (runJ l now log js).1) ∧ ∃ lv' A' c', w'.heap[g]? = some (.cells #[lv', .int .i64 now, .slice A0 l.length c0, v3, v4, .slice A' (runJ l now log js).2.1.length c', v6] 160 (0, 0)) ∧ Kd.N k38 38 w' base (okG g) lv' (runJ l now log js).2.2 ∧ (runJ l now log js).2.1.length ≤ c' ∧
      Kd.F k182 w' (fun k => (okJ k ∨ w.heap.size ≤ k) ∧ k ≠ g ∧ some k ≠ lv'.ownBlock) A' (runJ l now log js).2.1.length (runJ l now log js).2.1 ∧ Below base w w' ∧ Kept w w' (handS g lv) ∧ (lv'.ownBlock = lv.ownBlock ∨ ∃ b, lv'.ownBlock = some b ∧ w.heap.size ≤ b) := by
  have hu := Tryz.underlying182
  have hu2 := Tryz.underlying44
  have HB := Aside0.mk hB
  have HN := Aside0.mk hN
  have HT0 := Aside0.mk hT
  have HJ := Aside0.mk hJ
  have HOK := Aside0.mk hok
  have HOKT := Aside0.mk hokT
  have HJA := Aside0.mk hja
  have hgl := blk_lt hB
  have hn1 := (Kd.F_now hT).2.1
  have hn2 := (Kd.F_now hJ).2.1
  have x2 : w.cell? ⟨g, 2, none⟩ = some (.slice A0 l.length c0) := by rw [blk_cell hB]; rfl
  have x5 : w.cell? ⟨g, 5, none⟩ = some (.slice A3 js.length c3) := by rw [blk_cell hB]; rfl
  clear hB hN hT hJ hok hokT hja
  generalize htr : tickJ l js = tr
  have HTR := Aside0.mk htr
  have htc := Aside0.mk (fun W (hW : Below w.heap.size w W) => srp_Tick.calls A0 c0 l A3 c3 js (fun k => okJ k ∧ k < w.heap.size) W (Kd.C_below (Kd.F_now HT0.out) hW) (Kd.F_below (Kd.F_bound HJ.out) hW) hjc)
  rw [htr] at htc
  clear htr
  obtain ⟨js', j, ov⟩ := tr
  go_enter Tryz.func77, Tryz.ntmps77
  go_wp2
  refine st_ 19 (fun w' => w'.cell? (⟨g, 2, none⟩) = some (.slice A0 l.length c0) ∧ w'.cell? (⟨g, 5, none⟩) = some (.slice A3 js.length c3) ∧ Below w.heap.size w w') [17] hand_run.tab1 hand_run.bits1 ⟨x2, x5, below_drew1 bl0⟩ (h := fun HT HW hHeld => ?_)
  repeat (first | refine pn_ HT (h := ?_) | refine tn_ HT HW hHeld (h := ?_) | refine zn_ HT (h := ?_))
  refine join_ (σ := Nat × Option Addr × Nat) 3 #[true, true, true, true, true, true, true, true, true, true, true, true, true, true, true, true, false, false, false] (fun s => [(17, .tuple #[.slice s.2.1 js'.length s.2.2, vJ j, .bool ov]), (6, .tuple #[.slice s.2.1 js'.length s.2.2, vJ j, .bool ov]), (18, .slice s.2.1 js'.length s.2.2), (19, vJ j), (20, .bool ov), (4, .pointer (some ⟨s.1, 0, none⟩))])
    (fun s w' => Below w.heap.size w w' ∧ js'.length ≤ s.2.2 ∧ Kd.F k182 w' (fun k => ((okJ k ∧ k < w.heap.size) ∨ w.heap.size ≤ k) ∧ k ≠ s.1) s.2.1 js'.length js' ∧ w.heap.size ≤ s.1 ∧ w'.heap[s.1]? = some (.cells #[.int .i64 0, .int .i64 0, .int .i64 0, .int .i64 0, .int .i64 0, .bool false] 182 (0, 0))) (fun s w' hF => ?_) (fun HJN => ?_)
  rotate_left
  · refine tw_ 10 15 HT (h1 := fun K hK => ?_) (h2 := fun K hK => ?_)
    · refine cn_ ((htc.out _ (hHeld.2.2)).mono (fun e w' ⟨A', c', he, h⟩ => ⟨_, he, A', c', rfl, h⟩)) (R := fun v w' => ∃ A' c', v = .tuple #[.slice A' js'.length c', vJ j, .bool ov] ∧ js'.length ≤ c' ∧ Kd.F k182 w' (nw (fun k => okJ k ∧ k < w.heap.size) w.drew) A' js'.length js' ∧ Below w.drew.heap.size w.drew w') (h := fun v3' w3 hv3 => ?_)
      obtain ⟨A5, c5, rfl, hc5, hF5, hb3⟩ := hv3
      refine hK.out _ _ ⟨be_cell hb3 (hHeld.1), be_cell hb3 (hHeld.2.1), below_step (hHeld.2.2) hb3⟩ (fun hHeld => ?_)
      refine nm_ (h := ?_)
      repeat (first | refine pn_ HT (h := ?_) | refine tn_ HT HW hHeld (h := ?_) | refine zn_ HT (h := ?_))
      refine on_ HT (h := fun K hK => ?_)
      refine ev_ (w1 := w3.alloc (.cells #[.int .i64 0, .int .i64 0, .int .i64 0, .int .i64 0, .int .i64 0, .bool false] 182)) (v := .pointer (some ⟨w3.heap.size, 0, none⟩)) (by go_simp; done) ?_
      refine hK.out _ _ ⟨al_cell (hHeld.1) _, al_cell (hHeld.2.1) _, below_alloc (hHeld.2.2) _⟩ (fun hHeld => ?_)
      refine norm_ ?_ (HJN (w3.heap.size, A5, c5) _ ⟨(hHeld.2.2), hc5, Kd.F_alloc (Kd.F_elderB hF5 w3.heap.size (Nat.le_refl _)) _, (show w.heap.size ≤ w3.heap.size from hb3.size), blk_new w3 _⟩)
      simp only [putAll, Act.put, sbA, sbB, sbC]
    · refine ev_ (w1 := w.drew.alloc (.cells #[.int .i64 0, .int .i64 0, .int .i64 0, .int .i64 0, .int .i64 0, .bool false] 182)) (v := .pointer (some ⟨w.drew.heap.size, 0, none⟩)) (by go_simp; done) ?_
      have hsz : (w.drew.alloc (.cells #[.int .i64 0, .int .i64 0, .int .i64 0, .int .i64 0, .int .i64 0, .bool false] 182)).heap.size = w.heap.size + 1 := alsz
      refine hK.out _ _ ⟨al_cell (hHeld.1) _, al_cell (hHeld.2.1) _, below_alloc (hHeld.2.2) _⟩ (fun hHeld => ?_)
      refine nm_ (h := ?_)
      repeat (first | refine pn_ HT (h := ?_) | refine tn_ HT HW hHeld (h := ?_) | refine zn_ HT (h := ?_))
      refine on_ HT (h := fun K hK => ?_)
      refine cn_ ((htc.out _ (hHeld.2.2)).mono (fun e w' ⟨A', c', he, h⟩ => ⟨_, he, A', c', rfl, h⟩)) (R := fun v w' => ∃ A' c', v = .tuple #[.slice A' js'.length c', vJ j, .bool ov] ∧ js'.length ≤ c' ∧ Kd.F k182 w' (nw (fun k => okJ k ∧ k < w.heap.size) (w.drew.alloc (.cells #[.int .i64 0, .int .i64 0, .int .i64 0, .int .i64 0, .int .i64 0, .bool false] 182))) A' js'.length js' ∧ Below (w.drew.alloc (.cells #[.int .i64 0, .int .i64 0, .int .i64 0, .int .i64 0, .int .i64 0, .bool false] 182)).heap.size (w.drew.alloc (.cells #[.int .i64 0, .int .i64 0, .int .i64 0, .int .i64 0, .int .i64 0, .bool false] 182)) w') (h := fun v3' w3 hv3 => ?_)
      obtain ⟨A5, c5, rfl, hc5, hF5, hb3⟩ := hv3
      refine hK.out _ _ ⟨be_cell hb3 (hHeld.1), be_cell hb3 (hHeld.2.1), below_step (hHeld.2.2) hb3⟩ (fun hHeld => ?_)
      refine nm_ (h := ?_)
      iterate 4 refine pn_ HT (h := ?_)
      refine norm_ ?_ (HJN (w.drew.heap.size, A5, c5) _ ⟨(hHeld.2.2), hc5, Kd.F_mono hF5 (fun k hk => ⟨hk.elim Or.inl (fun h => Or.inr (by rw [hsz] at h; omega)), fun he => hk.elim (fun h => by have h1 : k = w.heap.size := he; have := h.2; omega) (fun h => by have h1 : k = w.heap.size := he; rw [hsz] at h; omega)⟩), Nat.le_refl _, blk_below (blk_new w.drew _) hb3⟩)
      simp only [putAll, Act.put, sbA, sbB, sbC]
  · obtain ⟨g4, A5, c5⟩ := s
    obtain ⟨hb5, hc5, hF5, hg4, hB4⟩ := hF
    dsimp only at hb5 hc5 hF5 hg4 hB4 ⊢
    refine norm_ (by (simp only [putAll, Act.put, sbA, sbB, sbC]; rfl)) ?_
    repeat (first | refine pn_ HT (h := ?_) | refine tn_ HT HW hHeld (h := ?_) | refine zn_ HT (h := ?_))
    refine ln_ HT (h := fun K hK => ?_)
    refine stB_step (w0 := w) (base := w.heap.size) (seg := [.int .i64 j.f0, .int .i64 j.f1, .int .i64 j.f2, .int .i64 j.f3, .int .i64 j.f4, .bool j.f5]) (cs' := [.int .i64 j.f0, .int .i64 j.f1, .int .i64 j.f2, .int .i64 j.f3, .int .i64 j.f4, .bool j.f5]) hB4 hb5 hg4 (h := fun w6 hB6 hb6 hg6 => ?_)
    refine hK.out _ _ ?_
    repeat (first | refine pn_ HT (h := ?_) | refine zn_ HT (h := ?_))
    refine dn_ HT (h := ?_)
    clear HT HW hHeld hK K
    have hB7 := blk_grown (blk_below HB.out hb5) hg6 (fun he => by have := Option.some.inj he; omega)
    have hN7 := Kd.N_mono (Kd.N_grown (N_tight flat38 (Kd.N_below HN.out hb5)) hg6 (fun k hk he => by have h1 := Kd.N_lt HN.out k hk.symm; have := Option.some.inj he; omega)) (fun k hk => HN.out.1 k hk.symm)
    have HF7 := Aside0.mk (Kd.F_grown hF5 hg6 (fun k hk he => hk.2 (Option.some.inj he)))
    have HN7 := Aside0.mk hN7
    have hbb := Below.mono hb6 hbs
    have hk6 : Kept w w6 (handS g lv) := ⟨hb6.size, fun k hk _ => hb6.block k hk⟩
    have hg4g : g ≠ g4 := by omega
    clear hF5 hN7 hb5 hB4 hg6
    obtain ⟨y0, y1, y2, y3, y4, y5, y6⟩ := bx7 hB7
    by_cases cz : js.length = 0
    · have hv := Aside0.mk (show runJ l now log js = (-1, js, log) from if_pos cz)
      have cz2 : ((js.length : Int) == 0) = true := by rw [cz]; rfl
      go_wp2
      go_ret
      exact ⟨by rw [hv.out]; rfl, lv, A3, c3, by rw [hv.out]; exact hB7, by rw [hv.out]; exact HN7.out, by rw [hv.out]; exact hjc, by rw [hv.out]; exact Kd.F_mono (Kd.F_below HJ.out hb6) (fun k hk => ⟨Or.inl hk, HOK.out k hk⟩), hbb, hk6, Or.inl rfl⟩
    · have hv := Aside0.mk (show runJ l now log js = (j.f0, js', runLog l now log j ov) by unfold runJ; rw [if_neg cz, HTR.out])
      have cz2 : ((js.length : Int) == 0) = false := by simpa using cz
      clear cz
      have hB4 := hB6
      obtain ⟨z0, z1, z2, z3, z4, z5⟩ := bx6 hB6
      go_wp2_with ((with_reducible refine gate_store (t := 78) (p := 32) (v := .tmp 29) rfl ?_); refine stB (w0 := w) (base := base) (seg := [.slice A5 js'.length c5]) (cs' := [lv, .int .i64 now, .slice A0 l.length c0, v3, v4, .slice A5 js'.length c5, v6]) hB7 hbb hg (h := fun w8 hB8 hb8 hg8 => ?_))
      have hB4' := blk_grown hB4 hg8 (fun he => hg4g (Option.some.inj he).symm)
      have HN8 := Aside0.mk (Kd.N_grown HN7.out hg8 (fun k hk he => hk (Option.some.inj he)))
      have HF8 := Aside0.mk (Kd.F_bound (Kd.F_step (W1 := w8) HF7.out (fun k hk hlt => hg8.block k hlt (fun he => by have h0 := Option.some.inj he; rcases hk.1 with h | h; exact (HOK.out k h.1).1 h0; omega))))
      clear z0 z1 z2 z3 z4 z5 y0 y1 y2 y3 y4 y5 y6
      obtain ⟨z0, z1, z2, z3, z4, z5⟩ := bx6 hB4'
      obtain ⟨y0, y1, y2, y3, y4, y5, y6⟩ := bx7 hB8
      cases ov with
      | false =>
        refine st_ 17 (fun w' => w'.cell? (⟨g4, 0, none⟩) = some (.int .i64 j.f0) ∧ Below base w w') [] hand_run.tab5 hand_run.bits5 ⟨z0, below_drew hb8⟩ (h := fun HT HW hHeld => ?_)
        repeat (first | refine pn_ HT (h := ?_) | refine tn_ HT HW hHeld (h := ?_) | refine zn_ HT (h := ?_))
        refine dn_ HT (h := ?_)
        go_wp2
        go_ret
        have hv2 : runJ l now log js = (j.f0, js', log) := hv.out
        have hk8 : Kept w w8 (handS g lv) := ⟨Nat.le_trans hk6.1 hg8.size, fun k hk hS => (hg8.block k (Nat.lt_of_lt_of_le hk hk6.1) (fun he => hS (Or.inl (Option.some.inj he)))).trans (hk6.2 k hk hS)⟩
        have hF9 := Kd.F_mono (ok' := fun k => (okJ k ∨ w.heap.size ≤ k) ∧ k ≠ g ∧ some k ≠ lv.ownBlock) HF8.out (fun k hk => ⟨hk.1.1.elim (fun h => Or.inl h.1) Or.inr, hk.1.1.elim (fun h => HOK.out k h.1) (fun h => ⟨by omega, fun he => by have h1 := Kd.N_lt HN.out k he.symm; omega⟩)⟩)
        exact ⟨by rw [hv2]; rfl, lv, A5, c5, by rw [hv2]; exact blk_drew hB8, by rw [hv2]; exact Kd.N_drew HN8.out, by rw [hv2]; exact hc5, by rw [hv2]; exact Kd.F_drew hF9, below_drew hb8, hk8, Or.inl rfl⟩
      | true =>
        obtain ⟨k, hk, hkl⟩ := tick_task HJA.out HTR.out
        have hT8 := Kd.F_grown (Kd.F_below HT0.out hb6) hg8 (fun k hk he => (HOKT.out k hk).1 (Option.some.inj he))
        obtain ⟨ad2, Ax, cx, t, hA0, ht, e0, -, -, -, -, -⟩ := el44 (Kd.F_now hT8) k hkl
        subst hA0
        have hk8 : Kept w w8 (handS g lv) := ⟨Nat.le_trans hk6.1 hg8.size, fun k hk hS => (hg8.block k (Nat.lt_of_lt_of_le hk hk6.1) (fun he => hS (Or.inl (Option.some.inj he)))).trans (hk6.2 k hk hS)⟩
        have hv2 := Aside0.mk (show runJ l now log js = (j.f0, js', noteL log now (if t.f0 < j.f3 then 5 else 4) j.f0) by
          rw [hv.out]; unfold runLog; rw [hk, Int.toNat_natCast, List.getD_eq_getElem?_getD, List.getElem?_eq_getElem hkl, Option.getD_some, ht.out]; rfl)
        rw [hk] at z0
        by_cases cw : t.f0 < j.f3
        · have hv3 := Aside0.mk (show runJ l now log js = (j.f0, js', noteL log now 5 j.f0) by rw [hv2.out, if_pos cw])
          refine st_ 17 (fun w' => w'.cell? (⟨g4, 0, none⟩) = some (.int .i64 k) ∧ w'.cell? (⟨g4, 3, none⟩) = some (.int .i64 j.f3) ∧ w'.cell? (⟨g, 2, none⟩) = some (.slice (some ad2) l.length c0) ∧ w'.cell? (ad2.add (k * 4)) = some (.int .i64 t.f0)) [] hand_run.tab5 hand_run.bits5 ⟨z0, z3, y2, e0⟩ (h := fun HT HW hHeld => ?_)
          repeat (first | refine pn_ HT (h := ?_) | refine tn_ HT HW hHeld (h := ?_) | refine zn_ HT (h := ?_))
          refine dn_ HT (h := ?_)
          clear HT HW hHeld
          have hB8' := blk_drew hB8
          have hN8' := Kd.N_drew HN8.out
          have hB4x := blk_drew hB4'
          have hF8' := Kd.F_drew HF8.out
          have hb8' := below_drew hb8
          have hk8' : Kept w w8.drew (handS g lv) := hk8
          have hsz8 : w8.heap.size = w8.drew.heap.size := rfl
          generalize w8.drew = wB at hB8' hN8' hB4x hF8' hb8' hk8' hsz8 ⊢
          clear z0 z1 z2 z3 z4 z5 y0 y1 y2 y3 y4 y5 y6 e0
          obtain ⟨z0, z1, z2, z3, z4, z5⟩ := bx6 hB4x
          go_wp2
          refine st_ 6 (fun w' => w'.cell? (⟨g4, 0, none⟩) = some (.int .i64 j.f0)) [5] hand_run.tab6 hand_run.bits6 (z0) (h := fun HT HW hHeld => ?_)
          repeat (first | refine pn_ HT (h := ?_) | refine tn_ HT HW hHeld (h := ?_) | refine zn_ HT (h := ?_))
          refine ln_ HT (h := fun K hK => ?_)
          refine cn_ ((book_note.calls base g lv log now 5 j.f0 (.slice (some ad2) l.length c0) v3 v4 (.slice A5 js'.length c5) v6 wB.drew (Nat.le_trans hbs hk8'.1) hg (blk_drew hB8') (Kd.N_drew hN8')).mono (fun e w' h => ⟨_, h.1, h.2⟩)) (R := fun _ w' => ∃ lv', w'.heap[g]? = some (.cells #[lv', .int .i64 now, .slice (some ad2) l.length c0, v3, v4, .slice A5 js'.length c5, v6] 160 (0, 0)) ∧ Kd.N k38 38 w' base (okG g) lv' (noteL log now 5 j.f0) ∧ Below base wB.drew w' ∧ Kept wB.drew w' (handS g lv) ∧ (lv'.ownBlock = lv.ownBlock ∨ ∃ b, lv'.ownBlock = some b ∧ wB.drew.heap.size ≤ b)) (h := fun v9 w9 hv9 => ?_)
          obtain ⟨lv9, hB9, hN9, hb9, hk9, hr9⟩ := hv9
          refine hK.out _ _ ?_
          refine dn_ HT (h := ?_)
          have h49 := (hk9.2 g4 (blk_lt hB4x) (fun hS => hS.elim (fun h => hg4g h.symm) (fun h => by have h1 := Kd.N_lt HN.out g4 h.symm; omega))).trans hB4x
          clear z0 z1 z2 z3 z4 z5
          obtain ⟨z0, z1, z2, z3, z4, z5⟩ := bx6 h49
          go_wp2
          go_ret
          have hF9 := Kd.F_bound (Kd.F_kept (Kd.F_drew hF8') hk9 (fun q hq hS => by rcases hS with hS | hS; (rcases hq.1.1 with h | h; exact (HOK.out q h.1).1 hS; omega); (rcases hq.1.1 with h | h; exact (HOK.out q h.1).2 hS; exact absurd (Kd.N_lt HN.out q hS.symm) (by omega))))
          have hsw : w.heap.size ≤ wB.drew.heap.size := hk8'.1
          have hF10 : Kd.F k182 w9 (fun q => (okJ q ∨ w.heap.size ≤ q) ∧ q ≠ g ∧ some q ≠ lv9.ownBlock) A5 js'.length js' := Kd.F_mono hF9 (fun q hq => by
            have hq2 : q < wB.drew.heap.size := hsz8 ▸ hq.1.2
            refine ⟨hq.1.1.1.elim (fun h => Or.inl h.1) Or.inr, hq.1.1.1.elim (fun h => (HOK.out q h.1).1) (fun h => by omega), fun he => ?_⟩
            rcases hr9 with h1 | ⟨b, h1, h2⟩
            · rw [h1] at he
              rcases hq.1.1.1 with h | h
              · exact (HOK.out q h.1).2 he
              · exact absurd (Kd.N_lt HN.out q he.symm) (by omega)
            · rw [h1] at he; have := Option.some.inj he; omega)
          refine ⟨by rw [hv3.out]; show _ = Ending.returned (.int .i64 j.f0); rw [hk]; rfl, lv9, A5, c5, by rw [hv3.out]; exact hB9, by rw [hv3.out]; exact hN9, by rw [hv3.out]; exact hc5, by rw [hv3.out]; exact hF10, Below.trans (below_drew hb8') hb9, ⟨Nat.le_trans hsw hk9.1, fun q hq hS => (hk9.2 q (Nat.lt_of_lt_of_le hq hsw) hS).trans (hk8'.2 q hq hS)⟩, hr9.elim Or.inl (fun ⟨b, h1, h2⟩ => Or.inr ⟨b, h1, Nat.le_trans hsw h2⟩)⟩
        · have hv3 := Aside0.mk (show runJ l now log js = (j.f0, js', noteL log now 4 j.f0) by rw [hv2.out, if_neg cw])
          refine st_ 17 (fun w' => w'.cell? (⟨g4, 0, none⟩) = some (.int .i64 k) ∧ w'.cell? (⟨g4, 3, none⟩) = some (.int .i64 j.f3) ∧ w'.cell? (⟨g, 2, none⟩) = some (.slice (some ad2) l.length c0) ∧ w'.cell? (ad2.add (k * 4)) = some (.int .i64 t.f0)) [] hand_run.tab5 hand_run.bits5 ⟨z0, z3, y2, e0⟩ (h := fun HT HW hHeld => ?_)
          repeat (first | refine pn_ HT (h := ?_) | refine tn_ HT HW hHeld (h := ?_) | refine zn_ HT (h := ?_))
          refine dn_ HT (h := ?_)
          clear HT HW hHeld
          have hB8' := blk_drew hB8
          have hN8' := Kd.N_drew HN8.out
          have hB4x := blk_drew hB4'
          have hF8' := Kd.F_drew HF8.out
          have hb8' := below_drew hb8
          have hk8' : Kept w w8.drew (handS g lv) := hk8
          have hsz8 : w8.heap.size = w8.drew.heap.size := rfl
          generalize w8.drew = wB at hB8' hN8' hB4x hF8' hb8' hk8' hsz8 ⊢
          clear z0 z1 z2 z3 z4 z5 y0 y1 y2 y3 y4 y5 y6 e0
          obtain ⟨z0, z1, z2, z3, z4, z5⟩ := bx6 hB4x
          go_wp2
          refine st_ 6 (fun w' => w'.cell? (⟨g4, 0, none⟩) = some (.int .i64 j.f0)) [5] hand_run.tab8 hand_run.bits8 (z0) (h := fun HT HW hHeld => ?_)
          repeat (first | refine pn_ HT (h := ?_) | refine tn_ HT HW hHeld (h := ?_) | refine zn_ HT (h := ?_))
          refine ln_ HT (h := fun K hK => ?_)
          refine cn_ ((book_note.calls base g lv log now 4 j.f0 (.slice (some ad2) l.length c0) v3 v4 (.slice A5 js'.length c5) v6 wB.drew (Nat.le_trans hbs hk8'.1) hg (blk_drew hB8') (Kd.N_drew hN8')).mono (fun e w' h => ⟨_, h.1, h.2⟩)) (R := fun _ w' => ∃ lv', w'.heap[g]? = some (.cells #[lv', .int .i64 now, .slice (some ad2) l.length c0, v3, v4, .slice A5 js'.length c5, v6] 160 (0, 0)) ∧ Kd.N k38 38 w' base (okG g) lv' (noteL log now 4 j.f0) ∧ Below base wB.drew w' ∧ Kept wB.drew w' (handS g lv) ∧ (lv'.ownBlock = lv.ownBlock ∨ ∃ b, lv'.ownBlock = some b ∧ wB.drew.heap.size ≤ b)) (h := fun v9 w9 hv9 => ?_)
          obtain ⟨lv9, hB9, hN9, hb9, hk9, hr9⟩ := hv9
          refine hK.out _ _ ?_
          refine dn_ HT (h := ?_)
          have h49 := (hk9.2 g4 (blk_lt hB4x) (fun hS => hS.elim (fun h => hg4g h.symm) (fun h => by have h1 := Kd.N_lt HN.out g4 h.symm; omega))).trans hB4x
          clear z0 z1 z2 z3 z4 z5
          obtain ⟨z0, z1, z2, z3, z4, z5⟩ := bx6 h49
          go_wp2
          go_ret
          have hF9 := Kd.F_bound (Kd.F_kept (Kd.F_drew hF8') hk9 (fun q hq hS => by rcases hS with hS | hS; (rcases hq.1.1 with h | h; exact (HOK.out q h.1).1 hS; omega); (rcases hq.1.1 with h | h; exact (HOK.out q h.1).2 hS; exact absurd (Kd.N_lt HN.out q hS.symm) (by omega))))
          have hsw : w.heap.size ≤ wB.drew.heap.size := hk8'.1
          have hF10 : Kd.F k182 w9 (fun q => (okJ q ∨ w.heap.size ≤ q) ∧ q ≠ g ∧ some q ≠ lv9.ownBlock) A5 js'.length js' := Kd.F_mono hF9 (fun q hq => by
            have hq2 : q < wB.drew.heap.size := hsz8 ▸ hq.1.2
            refine ⟨hq.1.1.1.elim (fun h => Or.inl h.1) Or.inr, hq.1.1.1.elim (fun h => (HOK.out q h.1).1) (fun h => by omega), fun he => ?_⟩
            rcases hr9 with h1 | ⟨b, h1, h2⟩
            · rw [h1] at he
              rcases hq.1.1.1 with h | h
              · exact (HOK.out q h.1).2 he
              · exact absurd (Kd.N_lt HN.out q he.symm) (by omega)
            · rw [h1] at he; have := Option.some.inj he; omega)
          refine ⟨by rw [hv3.out]; show _ = Ending.returned (.int .i64 j.f0); rw [hk]; rfl, lv9, A5, c5, by rw [hv3.out]; exact hB9, by rw [hv3.out]; exact hN9, by rw [hv3.out]; exact hc5, by rw [hv3.out]; exact hF10, Below.trans (below_drew hb8') hb9, ⟨Nat.le_trans hsw hk9.1, fun q hq hS => (hk9.2 q (Nat.lt_of_lt_of_le hq hsw) hS).trans (hk8'.2 q hq hS)⟩, hr9.elim Or.inl (fun ⟨b, h1, h2⟩ => Or.inr ⟨b, h1, Nat.le_trans hsw h2⟩)⟩
abbrev okH (ok : Nat → Prop) (base g : Nat) (lv : Value) : Nat → Prop := fun k => (ok k ∨ base ≤ k) ∧ k ≠ g ∧ some k ≠ lv.ownBlock
section
variable {α : Type} {d : Kd α} {ok : Nat → Prop} {base g n : Nat} {lv lv' : Value} {w w' : World} {A : Option Addr} {xs : List α}
theorem H_note (h : Kd.F d w (okH ok base g lv) A n xs) (hk : Kept w w' (handS g lv)) (hr : lv'.ownBlock = lv.ownBlock ∨ ∃ b, lv'.ownBlock = some b ∧ w.heap.size ≤ b) : Kd.F d w' (okH ok base g lv') A n xs :=
  Kd.F_mono (Kd.F_kept (Kd.F_bound h) hk (fun k hk hS => hS.elim hk.1.2.1 hk.1.2.2)) (fun k hk => ⟨hk.1.1, hk.1.2.1, fun he => by
    rcases hr with h1 | ⟨b, h1, h2⟩
    · rw [h1] at he; exact hk.1.2.2 he
    · rw [h1] at he; have := Option.some.inj he; omega⟩)
theorem H_new {e : Nat} {c : Nat} {log : List S38} (h : Kd.N d e w' w.heap.size (nwb (okH ok base g lv) w) (.slice A n c) xs) (hbs : base ≤ w.heap.size) (hg : g < w.heap.size) (hN : Kd.N k38 38 w base (okG g) lv log) : Kd.F d w' (okH ok base g lv) A n xs :=
  Kd.F_mono (Kd.N_F h) (fun k hk => hk.elim (fun h => h.1) (fun h => ⟨Or.inr (Nat.le_trans hbs h), by omega, fun he => by have := Kd.N_lt hN k he.symm; omega⟩))
end
def leaveL (now : Int) : Nat → List S44 × List Bool × List Int × List S38 → List S44 × List Bool × List Int × List S38
  | 0, s => s
  | i + 1, s => if s.2.1.getD i false then leaveL now i (outL s.1 i, outL s.2.1 i, outL s.2.2.1 i, noteL s.2.2.2 now 7 i) else leaveL now i s
def hand_leave.T4 : Bool × List (List Nat × List Nat) := (true, [([], []), ([], []), ([], []), ([], []), ([3], [3]), ([4], [4]), ([5], [5]), ([6], [6]), ([], []), ([7, 8], [7, 8]), ([], []), ([10], [10]), ([11], [11]), ([12], [12]), ([13], [13]), ([], []), ([14, 15, 9], [14, 15]), ([], []), ([17], [17]), ([18], [18]), ([19], [19]), ([20], [20]), ([], []), ([21, 22, 16], [21, 22]), ([0, 0, 3, 4, 5, 6, 7, 8, 9, 14, 16, 21, 23], [0]), ([24, 0, 3, 4, 5, 6, 7, 8, 9, 14, 16, 21, 23], [24]), ([25, 0, 3, 4, 5, 6, 7, 8, 9, 14, 16, 21, 23], [25]), ([26, 9, 23, 0, 3, 4, 5, 6, 7, 8, 9, 14, 16, 21, 23], [9, 26]), ([1, 0, 1, 3, 4, 5, 6, 7, 8, 9, 10, 11, 12, 13, 14, 15, 16, 21, 23, 24, 25, 26, 27], [1]), ([28, 0, 1, 3, 4, 5, 6, 7, 8, 9, 10, 11, 12, 13, 14, 15, 16, 21, 23, 24, 25, 26, 27], [28]), ([29, 0, 1, 3, 4, 5, 6, 7, 8, 9, 10, 11, 12, 13, 14, 15, 16, 21, 23, 24, 25, 26, 27], [29]), ([30, 16, 27, 0, 1, 3, 4, 5, 6, 7, 8, 9, 10, 11, 12, 13, 14, 15, 16, 21, 23, 24, 25, 26, 27], [16, 30]), ([2, 0, 1, 2, 3, 4, 5, 6, 7, 8, 9, 10, 11, 12, 13, 14, 15, 16, 17, 18, 19, 20, 21, 22, 23, 24, 25, 26, 27, 28, 29, 30, 31], [2]), ([32, 0, 1, 2, 3, 4, 5, 6, 7, 8, 9, 10, 11, 12, 13, 14, 15, 16, 17, 18, 19, 20, 21, 22, 23, 24, 25, 26, 27, 28, 29, 30, 31], [32]), ([33, 0, 1, 2, 3, 4, 5, 6, 7, 8, 9, 10, 11, 12, 13, 14, 15, 16, 17, 18, 19, 20, 21, 22, 23, 24, 25, 26, 27, 28, 29, 30, 31], [33]), ([34, 23, 31, 0, 1, 2, 3, 4, 5, 6, 7, 8, 9, 10, 11, 12, 13, 14, 15, 16, 17, 18, 19, 20, 21, 22, 23, 24, 25, 26, 27, 28, 29, 30, 31], [23, 34])])
def hand_leave.B4 : List Nat := [0, 0, 0, 0, 8, 24, 56, 120, 0, 504, 0, 1024, 3072, 7168, 15360, 0, 65528, 0, 131072, 393216, 917504, 1966080, 0, 8388600, 16777209, 33554425, 67108857, 134217721, 268435451, 536870907, 1073741819, 2147483643, 4294967295, 8589934591, 17179869183, 34359738367]
theorem hand_leave.tab4 : rtab .any (opsOf Tryz.f78 4) = hand_leave.T4 := by kernel_rfl
theorem hand_leave.bits4 : waitsOk hand_leave.T4.2 hand_leave.B4 = true := by kernel_rfl
def hand_leave.T5 : Bool × List (List Nat × List Nat) := (true, [([], []), ([0], [0]), ([1], [1]), ([], []), ([2, 3], [2, 3])])
def hand_leave.B5 : List Nat := [0, 1, 3, 0, 15]
theorem hand_leave.tab5 : rtab .any (opsOf Tryz.f78 5) = hand_leave.T5 := by kernel_rfl
theorem hand_leave.bits5 : waitsOk hand_leave.T5.2 hand_leave.B5 = true := by kernel_rfl
theorem hand_leave.calls (base g : Nat) (ok : Nat → Prop) (lv : Value) (log : List S38) (now : Int) (ts : List S44) (ls : List Bool) (la : List Int) (A0 A1 A2 : Option Addr) (c0 c1 c2 : Nat) (v5 v6 : Value) (w : World) (hbs : base ≤ w.heap.size) (hg : base ≤ g)
    (hB : w.heap[g]? = some (.cells #[lv, .int .i64 now, .slice A0 ts.length c0, .slice A1 ls.length c1, .slice A2 la.length c2, v5, v6] 160 (0, 0))) (hN : Kd.N k38 38 w base (okG g) lv log)
    (h0 : Kd.F k44 w (okH ok base g lv) A0 ts.length ts) (h1 : Kd.F Kd.bool w (okH ok base g lv) A1 ls.length ls) (h2 : Kd.F (Kd.int .i64) w (okH ok base g lv) A2 la.length la) (l0 : ts.length ≤ c0) (l1 : ls.length ≤ c1) (l2 : la.length ≤ c2) (e1 : ls.length = ts.length) (e2 : la.length = ts.length) (h8 : ts.length ≤ 8) :
    Calls Tryz.prog 78 #[.pointer (some ⟨g, 0, none⟩)] w fun e w' => e = .returned (.tuple #[]) ∧ ∃ lv' r0 r1 r2 A0' A1' A2' c0' c1' c2' lg, leaveL now ts.length (ts, ls, la, log) = (r0, r1, r2, lg) ∧ w'.heap[g]? = some (.cells #[lv', .int .i64 now, .slice A0' r0.length c0', .slice A1' r1.length c1', .slice A2' r2.length c2', v5, v6] 160 (0, 0)) ∧ Kd.N k38 38 w' base (okG g) lv' lg ∧
      Kd.F k44 w' (okH ok base g lv') A0' r0.length r0 ∧ Kd.F Kd.bool w' (okH ok base g lv') A1' r1.length r1 ∧ Kd.F (Kd.int .i64) w' (okH ok base g lv') A2' r2.length r2 ∧ r0.length ≤ c0' ∧ r1.length ≤ c1' ∧ r2.length ≤ c2' ∧ Below base w w' ∧ Kept w w' (handS g lv) ∧ (lv'.ownBlock = lv.ownBlock ∨ ∃ b, lv'.ownBlock = some b ∧ w.heap.size ≤ b) := by
  have HB := Aside0.mk hB
  have x2 : w.cell? ⟨g, 2, none⟩ = some (.slice A0 ts.length c0) := by rw [blk_cell hB]; rfl
  have hgl := blk_lt hB
  go_enter Tryz.func78, Tryz.ntmps78
  go_wp2
  clear x2
  have HN := Aside0.mk hN
  have H0 := Aside0.mk h0
  have H1 := Aside0.mk h1
  have H2 := Aside0.mk h2
  clear hB hN h0 h1 h2
  go_loopg [2] ts.length (fun k v2 wr => ∃ (lv1 : Value) (t1 : List S44) (b1 : List Bool) (a1 : List Int) (g1 : List S38) (A0 A1 A2 : Option Addr) (c0 c1 c2 : Nat), v2 = .int .i64 ((k : Int) - 1) ∧ leaveL now k (t1, b1, a1, g1) = leaveL now ts.length (ts, ls, la, log) ∧ wr.heap[g]? = some (.cells #[lv1, .int .i64 now, .slice A0 t1.length c0, .slice A1 b1.length c1, .slice A2 a1.length c2, v5, v6] 160 (0, 0)) ∧ Kd.N k38 38 wr base (okG g) lv1 g1 ∧
    Kd.F k44 wr (okH ok base g lv1) A0 t1.length t1 ∧ Kd.F Kd.bool wr (okH ok base g lv1) A1 b1.length b1 ∧ Kd.F (Kd.int .i64) wr (okH ok base g lv1) A2 a1.length a1 ∧ t1.length ≤ c0 ∧ b1.length ≤ c1 ∧ a1.length ≤ c2 ∧ b1.length = t1.length ∧ a1.length = t1.length ∧ t1.length ≤ 8 ∧ k ≤ t1.length ∧ Below base w wr ∧ Kept w wr (handS g lv) ∧ (lv1.ownBlock = lv.ownBlock ∨ ∃ b, lv1.ownBlock = some b ∧ w.heap.size ≤ b))
  case atStart => exact ⟨lv, ts, ls, la, log, A0, A1, A2, c0, c1, c2, by go_num, rfl, HB.out, HN.out, H0.out, H1.out, H2.out, l0, l1, l2, e1, e2, h8, Nat.le_refl _, Below.refl _ _, ⟨Nat.le_refl _, fun _ _ _ => rfl⟩, Or.inl rfl⟩
  case round =>
    obtain ⟨lv1, t1, b1, a1, g1, A0', A1', A2', c0', c1', c2', rfl, hle, hB1, hN1, hT1, hL1, hA1, l01, l11, l21, e11, e21, h81, hkt, hb1, hk1, hr1⟩ := hrel
    have HN1 := Aside0.mk hN1
    have HT1 := Aside0.mk hT1
    have HL1 := Aside0.mk hL1
    have HA1 := Aside0.mk hA1
    have HR1 := Aside0.mk hr1
    have HK1 := Aside0.mk hk1
    have HLE := Aside0.mk hle
    clear hN1 hT1 hL1 hA1 hr1 hle
    obtain ⟨y0, y1, y2, y3, y4, y5, y6⟩ := bx7 hB1
    obtain _ | k := gk
    · have hle := HLE.out
      clear HLE
      go_wp2
      go_end0
      exact ⟨rfl, lv1, t1, b1, a1, A0', A1', A2', c0', c1', c2', g1, hle.symm, hB1, HN1.out, HT1.out, HL1.out, HA1.out, l01, l11, l21, hb1, HK1.out, HR1.out⟩
    · have hkb : k < b1.length := by omega
      obtain ⟨ad, bv, rfl, hbv, e0⟩ := elB (Kd.F_now HL1.out) k hkb
      have hk1 : (((k + 1 : Nat) : Int) - 1) = (k : Int) := by omega
      rw [hk1]
      have hsz := HK1.out.1
      have hgl2 := blk_lt hB1
      have hstep := Aside0.mk (show leaveL now (k + 1) (t1, b1, a1, g1) = if bv then leaveL now k (outL t1 k, outL b1 k, outL a1 k, noteL g1 now 7 k) else leaveL now k (t1, b1, a1, g1) by
        show (if b1.getD k false then _ else _) = _
        rw [List.getD_eq_getElem?_getD, List.getElem?_eq_getElem hkb, Option.getD_some, hbv.out])
      clear hbv
      cases bv with
      | false =>
        go_wp2
        go_roundg k
        case measure => omega
        case rel => exact ⟨lv1, t1, b1, a1, g1, A0', some ad, A2', c0', c1', c2', by go_num, by rw [← HLE.out, hstep.out]; rfl, hB1, HN1.out, HT1.out, HL1.out, HA1.out, l01, l11, l21, e11, e21, h81, by omega, hb1, HK1.out, HR1.out⟩
      | true =>
        have hkt2 : k < t1.length := by omega
        have hka : k < a1.length := by omega
        have t8 : b1.length ≤ 8 := by omega
        have a8 : a1.length ≤ 8 := by omega
        go_wp2
        refine st_ 36 (fun w' => Below wr.heap.size wr w' ∧ w'.cell? (⟨g, 2, none⟩) = some (.slice A0' t1.length c0') ∧ w'.cell? (⟨g, 3, none⟩) = some (.slice (some ad) b1.length c1') ∧ w'.cell? (⟨g, 4, none⟩) = some (.slice A2' a1.length c2')) [27,31,35] hand_leave.tab4 hand_leave.bits4 ⟨below_drew1 bl0, y2, y3, y4⟩ (h := fun HT HW hHeld => ?_)
        repeat (first | refine pn_ HT (h := ?_) | refine tn_ HT HW hHeld (h := ?_) | refine zn_ HT (h := ?_))
        refine on_ HT (h := fun K hK => ?_)
        refine cn_ ((without44.calls A0' c0' t1 k _ wr.drew (Kd.F_drew HT1.out) l01 hkt2 (by omega)).mono (fun e w' ⟨v, he, h⟩ => ⟨_, he, h⟩)) (R := fun v w' => Kd.N k44 44 w' wr.drew.heap.size (nwb (okH ok base g lv1) wr.drew) v (outL t1 k) ∧ Below wr.drew.heap.size wr.drew w') (h := fun v5 w5 hv5 => ?_)
        obtain ⟨hN5, hb3⟩ := hv5
        refine hK.out _ _ ⟨below_step (hHeld.1) hb3, be_cell hb3 (hHeld.2.1), be_cell hb3 (hHeld.2.2.1), be_cell hb3 (hHeld.2.2.2)⟩ (fun hHeld => ?_)
        refine nm_ (h := ?_)
        have hbA : Below wr.heap.size wr w5 := (hHeld.1)
        obtain ⟨A5, c5, rfl⟩ := Kd.N_slice hN5
        repeat (first | refine pn_ HT (h := ?_) | refine tn_ HT HW hHeld (h := ?_) | refine zn_ HT (h := ?_))
        refine on_ HT (h := fun K hK => ?_)
        refine cn_ ((without4.calls (some ad) c1' b1 k _ w5 (Kd.F_below HL1.out hbA) l11 hkb (by omega)).mono (fun e w' ⟨v, he, h⟩ => ⟨_, he, h⟩)) (R := fun v w' => Kd.N Kd.bool 4 w' w5.heap.size (nwb (okH ok base g lv1) w5) v (outL b1 k) ∧ Below w5.heap.size w5 w') (h := fun v6' w6 hv6 => ?_)
        obtain ⟨hN6, hb3⟩ := hv6
        refine hK.out _ _ ⟨below_step (hHeld.1) hb3, be_cell hb3 (hHeld.2.1), be_cell hb3 (hHeld.2.2.1), be_cell hb3 (hHeld.2.2.2)⟩ (fun hHeld => ?_)
        refine nm_ (h := ?_)
        have hbB : Below wr.heap.size wr w6 := (hHeld.1)
        have hb56 := hb3
        obtain ⟨A6, c6, rfl⟩ := Kd.N_slice hN6
        repeat (first | refine pn_ HT (h := ?_) | refine tn_ HT HW hHeld (h := ?_) | refine zn_ HT (h := ?_))
        refine on_ HT (h := fun K hK => ?_)
        refine cn_ ((without3.calls A2' c2' a1 k _ w6 (Kd.F_below HA1.out hbB) l21 hka (by omega)).mono (fun e w' ⟨v, he, h⟩ => ⟨_, he, h⟩)) (R := fun v w' => Kd.N (Kd.int .i64) 3 w' w6.heap.size (nwb (okH ok base g lv1) w6) v (outL a1 k) ∧ Below w6.heap.size w6 w') (h := fun v7' w7 hv7 => ?_)
        obtain ⟨hN7, hb3⟩ := hv7
        refine hK.out _ _ ⟨below_step (hHeld.1) hb3, be_cell hb3 (hHeld.2.1), be_cell hb3 (hHeld.2.2.1), be_cell hb3 (hHeld.2.2.2)⟩ (fun hHeld => ?_)
        refine nm_ (h := ?_)
        have hbC : Below wr.heap.size wr w7 := (hHeld.1)
        have hb67 := hb3
        obtain ⟨A7, c7, rfl⟩ := Kd.N_slice hN7
        repeat (first | refine pn_ HT (h := ?_) | refine tn_ HT HW hHeld (h := ?_) | refine zn_ HT (h := ?_))
        have hB7 := blk_below hB1 hbC
        have hbd7 := Below.trans hb1 (Below.mono hbC (Nat.le_trans hbs hsz))
        have hg5 : g < w5.heap.size := Nat.lt_of_lt_of_le hgl2 hbA.size
        have hwr : wr.drew.heap.size = wr.heap.size := rfl
        have hN5' := Kd.N_below (Kd.N_below hN5 hb56) hb67
        have hN6' := Kd.N_below hN6 hb67
        have HL5 := (Kd.N_reads' hN5).2.1
        have HL6 := (Kd.N_reads' hN6).2.1
        have HL7 := (Kd.N_reads' hN7).2.1
        refine ln_ HT (h := fun K hK => ?_)
        refine stB_step (w0 := w) (base := base) (seg := [.slice A5 (outL t1 k).length c5]) (cs' := [lv1, .int .i64 now, .slice A5 (outL t1 k).length c5, .slice (some ad) b1.length c1', .slice A2' a1.length c2', v5, v6]) hB7 hbd7 hg (h := fun w8 hB8 hb8 hg8 => ?_)
        refine hK.out _ _ ?_
        repeat (first | refine pn_ HT (h := ?_) | refine zn_ HT (h := ?_))
        refine ln_ HT (h := fun K hK => ?_)
        refine stB_step (w0 := w) (base := base) (seg := [.slice A6 (outL b1 k).length c6]) (cs' := [lv1, .int .i64 now, .slice A5 (outL t1 k).length c5, .slice A6 (outL b1 k).length c6, .slice A2' a1.length c2', v5, v6]) hB8 hb8 hg (h := fun w9 hB9 hb9 hg9 => ?_)
        refine hK.out _ _ ?_
        repeat (first | refine pn_ HT (h := ?_) | refine zn_ HT (h := ?_))
        refine ln_ HT (h := fun K hK => ?_)
        refine stB_step (w0 := w) (base := base) (seg := [.slice A7 (outL a1 k).length c7]) (cs' := [lv1, .int .i64 now, .slice A5 (outL t1 k).length c5, .slice A6 (outL b1 k).length c6, .slice A7 (outL a1 k).length c7, v5, v6]) hB9 hb9 hg (h := fun wA hBA hbA2 hgA => ?_)
        refine hK.out _ _ ?_
        repeat (first | refine pn_ HT (h := ?_) | refine zn_ HT (h := ?_))
        refine dn_ HT (h := ?_)
        clear HT HW hHeld
        have hgN : ∀ q, q ≠ g → q < w7.heap.size → wA.heap[q]? = w7.heap[q]? := fun q hq hlt => (hgA.block q (Nat.lt_of_lt_of_le hlt (Nat.le_trans hg8.size hg9.size)) (fun he => hq (Option.some.inj he))).trans ((hg9.block q (Nat.lt_of_lt_of_le hlt hg8.size) (fun he => hq (Option.some.inj he))).trans (hg8.block q hlt (fun he => hq (Option.some.inj he))))
        have hsA : w7.heap.size ≤ wA.heap.size := Nat.le_trans hg8.size (Nat.le_trans hg9.size hgA.size)
        have HNA := Aside0.mk (Kd.N_step (w1 := wA) (Kd.N_below HN1.out hbC) (fun q hq hlt => hgN q hq hlt))
        have F5 := Aside0.mk (Kd.F_step (W1 := wA) (H_new hN5' (Nat.le_trans hbs hsz) hgl2 (Kd.N_drew HN1.out)) (fun q hq hlt => hgN q hq.2.1 hlt))
        have F6 := Aside0.mk (Kd.F_step (W1 := wA) (H_new hN6' (Nat.le_trans hbs (Nat.le_trans hsz hbA.size)) (Nat.lt_of_lt_of_le hgl2 hbA.size) (Kd.N_below HN1.out hbA)) (fun q hq hlt => hgN q hq.2.1 hlt))
        have F7 := Aside0.mk (Kd.F_step (W1 := wA) (H_new hN7 (Nat.le_trans hbs (Nat.le_trans hsz hbB.size)) (Nat.lt_of_lt_of_le hgl2 hbB.size) (Kd.N_below HN1.out hbB)) (fun q hq hlt => hgN q hq.2.1 hlt))
        have hkA : Kept w wA (handS g lv) := ⟨Nat.le_trans hsz (Nat.le_trans hbC.size hsA), fun q hq hS => (hgN q (fun he => hS (Or.inl he)) (Nat.lt_of_lt_of_le hq (Nat.le_trans hsz hbC.size))).trans ((hbC.block q (Nat.lt_of_lt_of_le hq hsz)).trans (HK1.out.2 q hq hS))⟩
        clear hN5 hN6 hN7 hN5' hN6' hB7 hB8 hB9 hg8 hg9 hgA hb8 hb9 hbd7 hgN hB1 y0 y1 y2 y3 y4 y5 y6
        go_wp2_with fail
        refine (book_note.calls base g lv1 g1 now 7 k _ _ _ v5 v6 wA (Nat.le_trans hbs hkA.1) hg hBA HNA.out).mono ?_
        rintro e wB ⟨rfl, lvB, hBB, hNB, hbB2, hkB, hrB⟩
        go_wp2
        go_roundg k
        case measure => omega
        case rel =>
          have o1 : (outL t1 k).length = t1.length - 1 := by unfold outL; rw [List.length_append, List.length_take, List.length_drop]; omega
          have o2 : (outL b1 k).length = b1.length - 1 := by unfold outL; rw [List.length_append, List.length_take, List.length_drop]; omega
          have o3 : (outL a1 k).length = a1.length - 1 := by unfold outL; rw [List.length_append, List.length_take, List.length_drop]; omega
          refine ⟨lvB, outL t1 k, outL b1 k, outL a1 k, noteL g1 now 7 k, A5, A6, A7, c5, c6, c7, by go_num, by rw [← HLE.out, hstep.out]; rfl, hBB, hNB, H_note F5.out hkB hrB, H_note F6.out hkB hrB, H_note F7.out hkB hrB, HL5, HL6, HL7, by omega, by omega, by omega, by omega, ?_, ?_, ?_⟩
          · exact Below.trans hbA2 hbB2
          · refine ⟨Nat.le_trans hkA.1 hkB.1, fun q hq hS => (hkB.2 q (Nat.lt_of_lt_of_le hq hkA.1) (fun hS1 => ?_)).trans (hkA.2 q hq hS)⟩
            rcases hS1 with hS1 | hS1
            · exact hS (Or.inl hS1)
            · rcases HR1.out with h1 | ⟨b, h1, h2⟩
              · exact hS (Or.inr (hS1.trans h1))
              · rw [h1] at hS1; have := Option.some.inj hS1; omega
          · rcases hrB with h1 | ⟨b, h1, h2⟩
            · rw [h1]; exact HR1.out
            · exact Or.inr ⟨b, h1, Nat.le_trans hkA.1 h2⟩
theorem newJ_iff {js : List S182} {a : S182} : newJ js a = true ↔ ∀ b ∈ js, ¬ (a.f0 = b.f0 ∧ a.f1 = b.f1) := by
  unfold newJ
  rw [List.all_eq_true]
  refine forall_congr' fun b => forall_congr' fun _ => ?_
  by_cases h1 : a.f0 = b.f0 <;> by_cases h2 : a.f1 = b.f1 <;> simp [h1, h2]
abbrev keyNe (a b : S182) : Prop := ¬ (b.f0 = a.f0 ∧ b.f1 = a.f1)
theorem jobA_iff2 {l : List S44} {js : List S182} : jobA l js = true ↔ taskA l = true ∧ js.length ≤ 32 ∧ (∀ j ∈ js, jobR l j = true) ∧ js.Pairwise keyNe := by
  unfold jobA
  rw [Bool.and_eq_true, Bool.and_eq_true, List.all_eq_true, decide_eq_true_iff, and_assoc]
  refine and_congr_right fun _ => and_congr_right fun _ => ?_
  rw [List.pairwise_iff_getElem]
  constructor
  · intro h
    have h2 : ∀ i (hi : i < js.length), jobR l js[i] = true ∧ newJ (js.take i) js[i] = true := fun i hi => by
      have := h i (List.mem_range.2 hi)
      rw [jobOk_iff hi, Bool.and_eq_true] at this
      exact this
    refine ⟨fun j hj => ?_, fun i k hi hk hik => ?_⟩
    · obtain ⟨i, hi, rfl⟩ := List.getElem_of_mem hj
      exact (h2 i hi).1
    · refine newJ_iff.1 (h2 k hk).2 js[i] ?_
      rw [List.mem_take_iff_getElem]
      exact ⟨i, by omega, rfl⟩
  · rintro ⟨h1, h2⟩ i hi
    rw [List.mem_range] at hi
    rw [jobOk_iff hi, Bool.and_eq_true]
    refine ⟨h1 _ (List.getElem_mem hi), newJ_iff.2 fun b hb => ?_⟩
    rw [List.mem_take_iff_getElem] at hb
    obtain ⟨k, hk, rfl⟩ := hb
    exact h2 k i (by omega) hi (by omega)
theorem jobA_sub {l : List S44} {js js' : List S182} (h : jobA l js = true) (hs : js'.Sublist js) : jobA l js' = true := by
  rw [jobA_iff2] at h ⊢
  exact ⟨h.1, Nat.le_trans hs.length_le h.2.1, fun j hj => h.2.2.1 j (hs.subset hj), h.2.2.2.sublist hs⟩
theorem jobA_miss {l : List S44} {js : List S182} (now : Int) (h : jobA l js = true) : jobA l (missL now js) = true := jobA_sub h List.filter_sublist
end Go.Proofs.YtmngaagojkihbaaGreat.FTop
