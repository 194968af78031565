/- Contracts of functions that the statement TopAlone reaches, and plain lemmas. No condition. -/
import Derived.Test.YtmngaagojkihbaaGreatZ13
namespace Go.Proofs.YtmngaagojkihbaaGreat.FTop
open Go.RowKit Go.Proofs.YtmngaagojkihbaaGreatW.PrintWords Go.Proofs.YtmngaagojkihbaaGreatW.PrintLast Go.Proofs.YtmngaagojkihbaaGreatW.PrintMore
attribute [local go_sem] max2_int min2_int max_two min_two
set_option linter.unusedVariables false
set_option linter.unusedSimpArgs false
set_option maxHeartbeats 8000000
set_option maxRecDepth 100000
def table_Right.T7 : Bool × List (List Nat × List Nat) := (true, [([], []), ([0], [0]), ([], []), ([2], [2]), ([1, 3], [1, 3]), ([], []), ([5], [5]), ([4, 0, 1, 2, 3, 4], [4]), ([6, 7, 0, 1, 2, 3, 4, 5, 6, 7], [6])])
def table_Right.B7 : List Nat := [0, 1, 0, 4, 15, 0, 32, 31, 255]
theorem table_Right.tab7 : rtab .any (opsOf Tryz.f56 7) = table_Right.T7 := by kernel_rfl
theorem table_Right.bits7 : waitsOk table_Right.T7.2 table_Right.B7 = true := by kernel_rfl
abbrev vW (x : S153) : Value := .agg #[.int .i64 x.f0, .int .i64 x.f1, .int .i64 x.f2]
def mayW (x : S153) (fr : Int) : Bool := decide (0 ≤ x.f0 ∧ x.f0 < 4 ∧ 0 ≤ x.f1 ∧ x.f1 < fr ∧ 1 ≤ x.f2 ∧ x.f2 ≤ fr - x.f1)
theorem mayW_iff {x : S153} {fr : Int} : mayW x fr = true ↔ 0 ≤ x.f0 ∧ x.f0 < 4 ∧ 0 ≤ x.f1 ∧ x.f1 < fr ∧ 1 ≤ x.f2 ∧ x.f2 ≤ fr - x.f1 := by simp [mayW]
def tabL (fr : Int) : List S153 → Int → Int → Bool
  | [], _, _ => true
  | x :: xs, e, la => mayW x fr && !decide (x.f1 < e) && !decide (x.f1 = e ∧ x.f0 = la) && tabL fr xs (x.f1 + x.f2) x.f0
def tabR (fr : Int) (ws : List S153) : Bool := tabL fr ws 0 (-1) && decide (1 ≤ fr ∧ fr ≤ 240)
theorem tabL_cons {fr e la : Int} {x : S153} {xs : List S153} : tabL fr (x :: xs) e la = true ↔ mayW x fr = true ∧ ¬ x.f1 < e ∧ ¬ (x.f1 = e ∧ x.f0 = la) ∧ tabL fr xs (x.f1 + x.f2) x.f0 = true := by
  simp only [tabL, Bool.and_eq_true, Bool.not_eq_true', decide_eq_false_iff_not, and_assoc]
theorem tabL_may {fr : Int} : ∀ (ws : List S153) (e la : Int), tabL fr ws e la = true → ∀ x ∈ ws, mayW x fr = true := by
  intro ws
  induction ws with
  | nil => intro e la _ x hx; cases hx
  | cons y ys ih =>
    intro e la h x hx
    have h2 := tabL_cons.1 h
    rcases List.mem_cons.1 hx with hx | hx
    · rw [hx]; exact h2.1
    · exact ih _ _ h2.2.2.2 x hx
theorem tabR_iff {fr : Int} {ws : List S153} : tabR fr ws = true ↔ tabL fr ws 0 (-1) = true ∧ 1 ≤ fr ∧ fr ≤ 240 := by simp [tabR]
theorem table_may.calls (x : S153) (fr : Int) (w : World) (h : mayW x fr = true) (hf : fr ≤ 240) : Ret 96 #[vW x, .int .i64 fr] w (.bool true) := by
  have hu := Tryz.underlying153
  have hb := mayW_iff.1 h
  clear h
  go_enter Tryz.func96, Tryz.ntmps96
  go_wp2
  go_ret
  exact ⟨rb (by simp), bl1⟩
theorem table_Right.calls (fr : Int) (A : Option Addr) (c : Nat) (ws : List S153) (w : World) (h : Kd.C k153 w A ws.length ws) (hR : tabR fr ws = true) : Ret 56 #[.agg #[.int .i64 fr, .slice A ws.length c]] w (.bool true) := by
  have hu := Tryz.underlying61
  have hu2 := Tryz.underlying153
  have H := Aside0.mk h
  have hl := h.2.1
  obtain ⟨hT, hf1, hf2⟩ := tabR_iff.1 hR
  have HT0 := Aside0.mk hT
  clear h hR hT
  go_enter Tryz.func56, Tryz.ntmps56
  go_wp2
  go_loopg [3, 4, 10] ws.length (fun k v3 v4 v10 wr => ∃ (i : Nat) (e la : Int), i + k = ws.length ∧ v10 = .int .i64 i ∧ v3 = .int .i64 e ∧ v4 = .int .i64 la ∧ Aside0 (tabL fr (ws.drop i) e la = true) ∧ 0 ≤ e ∧ e ≤ 240 ∧ wr.heap[w.heap.size]? = some (.cells #[.int .i64 fr, .slice A ws.length c] 61 (0, 0)) ∧ Below w.heap.size w wr)
  case atStart => exact ⟨0, 0, -1, by omega, by go_num, by go_num, by go_num, HT0, by omega, by omega, blk_new w _, bl1⟩
  case round =>
    obtain ⟨i, e, la, hi, rfl, rfl, rfl, hT, he0, he1, hB, hbr⟩ := hrel
    by_cases ci : i < ws.length
    · obtain ⟨ad, x, rfl, hx, e0, e1, e2⟩ := el153 (Kd.C_below H.out hbr) i ci
      have hT2 := hT.out
      rw [List.drop_eq_getElem_cons ci, hx.out] at hT2
      obtain ⟨hm, hlt, hne, hrest⟩ := tabL_cons.1 hT2
      have hmb := mayW_iff.1 hm
      have HM := Aside0.mk hm
      have HRS := Aside0.mk hrest
      have HNE := Aside0.mk hne
      clear hT2 hm hrest hne
      have hB1 := blk_al hB (.cells #[.int .i64 x.f0, .int .i64 x.f1, .int .i64 x.f2] 153)
      have hX1 := blk_new wr (.cells #[.int .i64 x.f0, .int .i64 x.f1, .int .i64 x.f2] 153)
      have hb1 := below_alloc hbr (.cells #[.int .i64 x.f0, .int .i64 x.f1, .int .i64 x.f2] 153)
      obtain ⟨y0, y1⟩ := bx2 hB1
      go_wp2_with fail
      refine (table_may.calls x fr _ HM.out hf2).mono ?_; rintro _ w3 ⟨rfl, hb3⟩
      have hB3 := blk_below hB1 hb3
      have hX3 := blk_below hX1 hb3
      have hb4 := below_step hb1 hb3
      clear y0 y1 e0 e1 e2 hB hB1 hX1 hb1 hbr hb3
      generalize wr.heap.size = gx at hX3 ⊢
      obtain ⟨z0, z1, z2⟩ := bx3 hX3
      have HW1 := Aside0.mk (show wrap64 (x.f1 + x.f2) = x.f1 + x.f2 from w64 (by omega) (by omega))
      by_cases ce : x.f1 = e
      · have cl : ¬ x.f0 = la := fun h => HNE.out ⟨ce, h⟩
        have ce2 : (x.f1 == e) = true := by simpa using ce
        have cl2 : (x.f0 == la) = false := by simpa using cl
        clear ce
        go_wp2
        refine st_ 9 (fun w' => Below w.heap.size w w' ∧ w'.cell? (⟨gx, 0, none⟩) = some (.int .i64 x.f0) ∧ w'.cell? (⟨gx, 1, none⟩) = some (.int .i64 x.f1) ∧ w'.cell? (⟨gx, 2, none⟩) = some (.int .i64 x.f2)) [] table_Right.tab7 table_Right.bits7 ⟨below_drew1 hb4, z0, z1, z2⟩ (h := fun HT HW hHeld => ?_)
        have hw1 := HW1.out
        repeat (first | refine pn_ HT (h := ?_) | refine tn_ HT HW hHeld (h := ?_) | refine zn_ HT (h := ?_))
        clear hw1
        refine dn_ HT (h := ?_)
        have hb5 := below_drew hb4
        have hB5 := blk_drew hB3
        go_wp2
        go_roundg (ws.length - i - 1)
        case measure => omega
        case rel => exact ⟨i + 1, x.f1 + x.f2, x.f0, by omega, by go_num, by go_num, by go_num, HRS, by omega, by omega, hB5, hb5⟩
      · have ce2 : (x.f1 == e) = false := by simpa using ce
        go_wp2
        refine st_ 9 (fun w' => Below w.heap.size w w' ∧ w'.cell? (⟨gx, 0, none⟩) = some (.int .i64 x.f0) ∧ w'.cell? (⟨gx, 1, none⟩) = some (.int .i64 x.f1) ∧ w'.cell? (⟨gx, 2, none⟩) = some (.int .i64 x.f2)) [] table_Right.tab7 table_Right.bits7 ⟨below_drew1 hb4, z0, z1, z2⟩ (h := fun HT HW hHeld => ?_)
        have hw1 := HW1.out
        repeat (first | refine pn_ HT (h := ?_) | refine tn_ HT HW hHeld (h := ?_) | refine zn_ HT (h := ?_))
        clear hw1
        refine dn_ HT (h := ?_)
        have hb5 := below_drew hb4
        have hB5 := blk_drew hB3
        go_wp2
        go_roundg (ws.length - i - 1)
        case measure => omega
        case rel => exact ⟨i + 1, x.f1 + x.f2, x.f0, by omega, by go_num, by go_num, by go_num, HRS, by omega, by omega, hB5, hb5⟩
    · have hv := hf1
      obtain ⟨y0, y1⟩ := bx2 hB
      go_wp2
      go_ret
      exact ⟨rb (by simp), hbr⟩
def atI (fr : Int) (ws : List S153) (t : Int) : Int :=
  match ws.find? (fun x => decide (x.f1 ≤ t % fr ∧ t % fr < x.f1 + x.f2)) with
  | some x => x.f0
  | none => -1
theorem find_at {p : S153 → Bool} (ws : List S153) (i : Nat) (hi : i < ws.length) (h : ∀ j (hj : j < i), p (ws[j]'(by omega)) = false) (hp : p ws[i] = true) : ws.find? p = some ws[i] := by
  rw [List.find?_eq_some_iff_getElem]
  exact ⟨hp, i, hi, rfl, fun j hj => by simpa using h j hj⟩
theorem table_At.calls (fr : Int) (A : Option Addr) (c : Nat) (ws : List S153) (t : Int) (w : World) (h : Kd.C k153 w A ws.length ws) (hR : tabR fr ws = true) (h0 : 0 ≤ t) (h1 : t ≤ 4611686018427387903) : Ret 36 #[.agg #[.int .i64 fr, .slice A ws.length c], .int .i64 t] w (.int .i64 (atI fr ws t)) := by
  have hu := Tryz.underlying61
  have hu2 := Tryz.underlying153
  have H := Aside0.mk h
  have hl := h.2.1
  have HR := Aside0.mk hR
  obtain ⟨hT, hf1, hf2⟩ := tabR_iff.1 hR
  have HM := Aside0.mk (tabL_may ws 0 (-1) hT)
  clear h hR hT
  have hm0 := Int.emod_nonneg t (show fr ≠ 0 by omega)
  have hm1 := Int.emod_lt_of_pos t (show 0 < fr by omega)
  generalize hq : t % fr = q at hm0 hm1
  have HQ := Aside0.mk hq
  have hv := Aside0.mk (show atI fr ws t = match ws.find? (fun x => decide (x.f1 ≤ q ∧ q < x.f1 + x.f2)) with | some x => x.f0 | none => -1 by unfold atI; rw [hq])
  have hqq := hq
  clear hq
  go_enter Tryz.func36, Tryz.ntmps36
  go_wp2_with fail
  refine (table_Right.calls fr A c ws _ (C_alloc H.out _) HR.out).mono ?_; rintro _ w2 ⟨rfl, hb2⟩
  obtain ⟨y0, y1⟩ := bx2 (blk_below (blk_new w (.cells #[.int .i64 fr, .slice A ws.length c] 61)) hb2)
  have hbA := below_step bl1 hb2
  clear hb2
  go_wp2
  rw [HQ.out]
  clear hqq y0 y1
  go_loopg [21] ws.length (fun k v21 wr => ∃ i : Nat, i + k = ws.length ∧ v21 = .int .i64 i ∧ Aside0 (∀ j (hj : j < i) (hl : j < ws.length), decide (ws[j].f1 ≤ q ∧ q < ws[j].f1 + ws[j].f2) = false) ∧ Below w.heap.size w wr)
  case atStart => exact ⟨0, by omega, by go_num, ⟨fun j hj => by omega⟩, hbA⟩
  case round =>
    clear hbA
    obtain ⟨i, hi, rfl, hno, hbr⟩ := hrel
    by_cases ci : i < ws.length
    · obtain ⟨ad, x, rfl, hx, e0, e1, e2⟩ := el153 (Kd.C_below H.out hbr) i ci
      have hmb := mayW_iff.1 (HM.out _ (List.getElem_mem ci))
      rw [hx.out] at hmb
      have hb1 := below_alloc hbr (.cells #[.int .i64 x.f0, .int .i64 x.f1, .int .i64 x.f2] 153)
      obtain ⟨z0, z1, z2⟩ := bx3 (blk_new wr (.cells #[.int .i64 x.f0, .int .i64 x.f1, .int .i64 x.f2] 153))
      by_cases cx : x.f1 ≤ q
      · by_cases cy : q < x.f1 + x.f2
        · have hv2 := Aside0.mk (show atI fr ws t = x.f0 by
            rw [hv.out, find_at ws i ci (fun j hj => hno.out j hj _) (by rw [hx.out]; exact decide_eq_true ⟨cx, cy⟩)]
            simp only [hx.out])
          go_wp2
          go_ret
          exact ⟨by rw [hv2.out]; rfl, hb1⟩
        · have hno2 := Aside0.mk (show ∀ j (hj : j < i + 1) (hl : j < ws.length), decide (ws[j].f1 ≤ q ∧ q < ws[j].f1 + ws[j].f2) = false from fun j hj hl => by
            by_cases h : j < i
            · exact hno.out j h hl
            · have : j = i := by omega
              subst this
              rw [hx.out]; exact decide_eq_false (fun h => cy h.2))
          go_wp2
          go_roundg (ws.length - i - 1)
          case measure => omega
          case rel => exact ⟨i + 1, by omega, by go_num, hno2, hb1⟩
      · have hno2 := Aside0.mk (show ∀ j (hj : j < i + 1) (hl : j < ws.length), decide (ws[j].f1 ≤ q ∧ q < ws[j].f1 + ws[j].f2) = false from fun j hj hl => by
          by_cases h : j < i
          · exact hno.out j h hl
          · have : j = i := by omega
            subst this
            rw [hx.out]; exact decide_eq_false (fun h => cx h.1))
        go_wp2
        go_roundg (ws.length - i - 1)
        case measure => omega
        case rel => exact ⟨i + 1, by omega, by go_num, hno2, hb1⟩
    · have hv2 := Aside0.mk (show atI fr ws t = -1 by
        rw [hv.out, List.find?_eq_none.2 (fun x hx => by
          obtain ⟨j, hj, rfl⟩ := List.getElem_of_mem hx
          rw [hno.out j (by omega) hj]; simp)])
      go_wp2
      go_ret
      exact ⟨by rw [hv2.out]; rfl, hbr⟩
section
variable {α : Type} {ops : Array Oper} {o : Oper} {a : Act} {Q : Exit → Act → World → Prop} {Kc : Act → World → Prop}
theorem R_store_step (d : Kd α) {w0 W : World} (base : Nat) (hw : Region.wanted o (yielded ops a.tmps) = true) (hN : o.dst = none) (t : TypeId) (p x : Operand) (ho : o.op = .store t p x) (e : TypeId) {g n cap o' : Nat} (i : Int) (j : Nat) (xs : List α) (x' : α) (u : Value) (seg c : List Value) (ok okp : Nat → Prop)
    (haddr : a.eval p = .pointer (some ⟨g, o', none⟩)) (hoff : o' = i.toNat * d.sz + j) (hx : a.eval x = u) (hu : u.cells.toList = seg) (ht : (Tryz.prog.info? t).map (·.size) = some seg.length) (h1 : ∀ q ∈ seg, q.oneCell' = true)
    (HO : d.R e W base ok (.slice (some ⟨g, 0, none⟩) n cap) xs) (h0 : 0 ≤ i) (hi : i < n) (hcl : c.length = d.sz) (hcc : ∀ j u, c[j]? = some u → W.cell? ⟨g, i.toNat * d.sz + j, none⟩ = some u)
    (hj : j + seg.length ≤ d.sz) (hM : d.M W base okp x' (c.take j ++ seg ++ c.drop (j + seg.length))) (hokp : ∀ k, okp k → ok k ∧ k ≠ g) (HB : Below base w0 W)
    (h : ∀ w1, d.R e w1 base ok (.slice (some ⟨g, 0, none⟩) n cap) (xs.set i.toNat x') → Below base w0 w1 → W.grownBy w1 (some g) → Kc a w1) : if Region.wanted o (yielded ops a.tmps) = true then Oper.wp Tryz.prog o a W Kc Q else Kc (a.put none undef) W := by
  subst hoff
  obtain ⟨hrow, hg⟩ := Kd.R_seg HO i h0 hi hcl hcc hj hM hokp
  have hbg : base ≤ g := Kd.R_base HO g (by simp [Value.ownBlock])
  have hnx : n = xs.length := (Kd.R_reads' HO).1
  obtain ⟨_, inner, hown, hr⟩ := HO
  have hil : i.toNat < n := by omega
  have hB : Below base w0 (W.setCells g (i.toNat * d.sz + j) seg) := HB.trans ⟨hg.os, hg.tape, hg.output, hg.size, fun k hk => by
    have hlt : k < W.heap.size ∨ W.heap.size ≤ k := Nat.lt_or_ge _ _
    rcases hlt with hlt | hge
    · exact hg.block k hlt (fun he => by injection he with he; omega)
    · exact setCells_far seg _ k (by omega)⟩
  rw [if_pos hw]
  have hrun : (Instr.storeAt t (.pointer (some ⟨g, i.toNat * d.sz + j, none⟩)) u).run Tryz.prog W = .ok () (W.setCells g (i.toNat * d.sz + j) seg) := by
    rcases hown.2 with ⟨hv, _⟩ | ⟨g', cap', cur, hv, hb, hh, hnc, hcm, hcs, _⟩
    · cases hv
    injection hv with ha _ hc
    injection ha with ha
    injection ha with hg'
    subst hg'; subst hc
    refine run_store_run t u seg hh hu ht ?_ h1
    have h2 : i.toNat * d.sz + d.sz ≤ n * d.sz := by rw [← Nat.succ_mul]; exact Nat.mul_le_mul_right _ hil
    have h3 : n * d.sz ≤ cap * d.sz := Nat.mul_le_mul_right _ (by omega)
    omega
  unfold Oper.wp execOp
  simp only [ho, haddr, hx, Sem.run_bind, Sem.run_pure, Result.andThen_ok, hrun]
  show Kc (a.put o.dst undef) _
  rw [hN]
  exact h _ hrow hB hg
theorem N_store_step (d : Kd α) {w0 W : World} (base : Nat) (hw : Region.wanted o (yielded ops a.tmps) = true) (hN : o.dst = none) (t : TypeId) (p x : Operand) (ho : o.op = .store t p x) (e : TypeId) {g n cap o' : Nat} (i : Int) (j : Nat) (xs : List α) (x' : α) (u : Value) (seg c : List Value) (ok okp : Nat → Prop)
    (haddr : a.eval p = .pointer (some ⟨g, o', none⟩)) (hoff : o' = i.toNat * d.sz + j) (hx : a.eval x = u) (hu : u.cells.toList = seg) (ht : (Tryz.prog.info? t).map (·.size) = some seg.length) (h1 : ∀ q ∈ seg, q.oneCell' = true)
    (HO : Kd.N d e W base ok (.slice (some ⟨g, 0, none⟩) n cap) xs) (h0 : 0 ≤ i) (hi : i < n) (hcl : c.length = d.sz) (hcc : ∀ j u, c[j]? = some u → W.cell? ⟨g, i.toNat * d.sz + j, none⟩ = some u)
    (hj : j + seg.length ≤ d.sz) (hM : Kd.FK d W okp x' (c.take j ++ seg ++ c.drop (j + seg.length))) (hokp : ∀ k, okp k → ok k ∧ k ≠ g) (HB : Below base w0 W)
    (h : ∀ w1, Kd.N d e w1 base ok (.slice (some ⟨g, 0, none⟩) n cap) (xs.set i.toNat x') → Below base w0 w1 → W.grownBy w1 (some g) → Kc a w1) : if Region.wanted o (yielded ops a.tmps) = true then Oper.wp Tryz.prog o a W Kc Q else Kc (a.put none undef) W := by
  obtain ⟨hown, rows, hl, hR, hf⟩ := HO
  refine R_store_step (Kd.raw d.sz) base hw hN t p x ho e i j rows (c.take j ++ seg ++ c.drop (j + seg.length)) u seg c (fun _ => True) (fun _ => False) haddr hoff hx hu ht h1 (Kd.raw_any hR) h0 hi hcl hcc hj (Kd.FK_raw hM) (fun _ hk => hk.elim) HB ?_
  intro w1 hr hb hg
  exact h w1 (Kd.N_written hown hl hf hr hg hM hokp) hb hg
theorem stNI_step {w0 W : World} {base : Nat} {ok : Nat → Prop} {x : Operand} {g n cap i : Nat} {pp : Operand} {xs : List Int} {q : Int} (HO : Kd.N (Kd.int .i64) 3 W base ok (.slice (some ⟨g, 0, none⟩) n cap) xs) (hi : i < n) (HB : Below base w0 W)
    (hw : Region.wanted o (yielded ops a.tmps) = true := by rfl) (ho : o.op = .store 3 pp x := by rfl) (hN : o.dst = none := by rfl) (hp : a.eval pp = .pointer (some ⟨g, i, none⟩) := by rfl) (hx : a.eval x = .int .i64 q := by rfl)
    (h : ∀ w1, Kd.N (Kd.int .i64) 3 w1 base ok (.slice (some ⟨g, 0, none⟩) n cap) (xs.set i q) → Below base w0 w1 → W.grownBy w1 (some g) → Kc a w1) : if Region.wanted o (yielded ops a.tmps) = true then Oper.wp Tryz.prog o a W Kc Q else Kc (a.put none undef) W := by
  obtain ⟨c, hcl, _, hcc, _⟩ := Kd.N_elem HO (0 : Int) (i : Int) (by omega) (by omega)
  have hcl1 : c.length = 1 := hcl
  refine N_store_step (Kd.int .i64) (w0 := w0) base hw hN 3 pp x ho 3 (i : Int) 0 xs q (.int .i64 q) [.int .i64 q] c ok (fun _ => False) hp ?_ hx rfl (by kernel_rfl) (by simp [Value.oneCell']) HO (by omega) (by omega) hcl hcc (by show 0 + 1 ≤ 1; omega) ?_ (fun k hk => hk.elim) HB (by rw [Int.toNat_natCast]; exact h)
  · rw [Int.toNat_natCast]; show i = i * 1 + 0; omega
  · intro W' _
    have : c.take 0 ++ [Value.int .i64 q] ++ c.drop (0 + [Value.int .i64 q].length) = [Value.int .i64 q] := by
      rw [List.drop_eq_nil_of_le (by simp [hcl1])]; rfl
    rw [this]
    rfl
end
abbrev vR (r : S131) (A : Option Addr) (c : Nat) : Value := .agg #[.slice A r.f0.length c, .int .i64 r.f1, .int .i64 r.f2]
def ringR (r : S131) : Bool := decide (0 < r.f0.length ∧ 0 ≤ r.f1 ∧ r.f1 < r.f0.length ∧ 0 ≤ r.f2 ∧ r.f2 ≤ r.f0.length)
theorem ringR_iff {r : S131} : ringR r = true ↔ 0 < r.f0.length ∧ 0 ≤ r.f1 ∧ r.f1 < r.f0.length ∧ 0 ≤ r.f2 ∧ r.f2 ≤ r.f0.length := by simp [ringR]
theorem ring_Right.calls (r : S131) (A : Option Addr) (c : Nat) (w : World) (h : ringR r = true) (h4 : r.f0.length ≤ 4) : Ret 97 #[vR r A c] w (.bool true) := by
  have hu := Tryz.underlying131
  have hb := ringR_iff.1 h
  have hp : (0 : Int) < r.f0.length := by omega
  clear h
  go_enter Tryz.func97, Tryz.ntmps97
  go_wp2
  go_ret
  exact ⟨rb (by simp), bl1⟩
theorem ring_at.calls (r : S131) (A : Option Addr) (c : Nat) (i : Int) (w : World) (h : ringR r = true) (h4 : r.f0.length ≤ 4) (h0 : 0 ≤ i) (h1 : i ≤ 4) : Ret 105 #[vR r A c, .int .i64 i] w (.int .i64 ((r.f1 + i) % r.f0.length)) := by
  have hu := Tryz.underlying131
  have hb := ringR_iff.1 h
  have hp : (0 : Int) < r.f0.length := by omega
  clear h
  go_enter Tryz.func105, Tryz.ntmps105
  go_wp2
  go_ret
  exact ⟨rfl, bl1⟩
theorem ring_own.calls (r : S131) (A : Option Addr) (c : Nat) (ok : Nat → Prop) (w : World) (h : Kd.F (Kd.int .i64) w ok A r.f0.length r.f0) (h4 : r.f0.length ≤ 4) (hp : 0 < r.f0.length) :
    Calls Tryz.prog 104 #[vR r A c] w fun e w' => ∃ g c', e = .returned (vR r (some ⟨g, 0, none⟩) c') ∧ Kd.N (Kd.int .i64) 3 w' w.heap.size (fun k => w.heap.size ≤ k) (.slice (some ⟨g, 0, none⟩) r.f0.length c') r.f0 ∧ Below w.heap.size w w' := by
  have hu := Tryz.underlying131
  have H := Aside0.mk (Kd.F_bound h)
  clear h
  have z1 : (w.alloc (.cells #[.slice A r.f0.length c, .int .i64 r.f1, .int .i64 r.f2] 131)).heap.size = w.heap.size + 1 := alsz
  have hB0 := blk_al (blk_new w (.cells #[.slice A r.f0.length c, .int .i64 r.f1, .int .i64 r.f2] 131)) (.cells #[.slice none 0 0, .int .i64 0, .int .i64 0] 131)
  have hR0 := blk_new (w.alloc (.cells #[.slice A r.f0.length c, .int .i64 r.f1, .int .i64 r.f2] 131)) (.cells #[.slice none 0 0, .int .i64 0, .int .i64 0] 131)
  rw [z1] at hR0
  have hb := @bl2 w (.cells #[.slice A r.f0.length c, .int .i64 r.f1, .int .i64 r.f2] 131) (.cells #[.slice none 0 0, .int .i64 0, .int .i64 0] 131)
  have z2 : ((w.alloc (.cells #[.slice A r.f0.length c, .int .i64 r.f1, .int .i64 r.f2] 131)).alloc (.cells #[.slice none 0 0, .int .i64 0, .int .i64 0] 131)).heap.size = w.heap.size + 2 := by rw [alsz, z1]
  obtain ⟨x0, x1, x2⟩ := bx3 hB0
  obtain ⟨y0, y1, y2⟩ := bx3 (blk_al hB0 (.cells #[] 3))
  have hN0 := N_empty (d := Kd.int .i64) ((w.alloc (.cells #[.slice A r.f0.length c, .int .i64 r.f1, .int .i64 r.f2] 131)).alloc (.cells #[.slice none 0 0, .int .i64 0, .int .i64 0] 131)) w.heap.size (fun k => k < w.heap.size ∨ w.heap.size + 2 ≤ k) 3 hb.size (Or.inr (by omega))
  rw [z2] at hN0
  have z3 : (((w.alloc (.cells #[.slice A r.f0.length c, .int .i64 r.f1, .int .i64 r.f2] 131)).alloc (.cells #[.slice none 0 0, .int .i64 0, .int .i64 0] 131)).alloc (.cells #[] 3)).heap.size = w.heap.size + 3 := by rw [alsz, z2]
  go_enter Tryz.func104, Tryz.ntmps104
  go_wp2_with (first
    | ((with_reducible refine gate_builtin (b := .append) (xs := #[.tmp 3, .tmp 5]) rfl ?_); at_builtin; refine apNR row3 (w0 := w) hN0 (Kd.F_below H.out (below_alloc hb _)) (fun k hk => ⟨Or.inl hk.2, ne_own hN0 hk.2⟩) (fun k hk => Or.inr (by rw [z3] at hk; omega)) (below_alloc hb _) (by rw [z3]; omega) (by show 0 + r.f0.length ≤ 100000; omega) (h := fun v5 w5 hN5 hb5 hg5 hat5 => ?_); (rw [List.nil_append] at hN5); (obtain ⟨g, c5, rfl, hbg, hgl, -⟩ := Kd.N_form hN5 hp); (have HN5 := Aside0.mk hN5); (have hgn := hN5.1 g rfl); (have hs5 := hg5.size); rw [z3] at hs5; (have hB5 := Aside0.mk (blk_grown (blk_al hB0 (.cells #[] 3)) hg5 (fun he => by have h2 : w.heap.size = w.heap.size + 2 := Option.some.inj he; omega))); (have hR5 := Aside0.mk (blk_grown (blk_al hR0 (.cells #[] 3)) hg5 (fun he => by have h2 : w.heap.size + 1 = w.heap.size + 2 := Option.some.inj he; omega))); clear hN5; clear x0 x1 x2 y0 y1 y2)
    | ((with_reducible refine gate_store (t := 33) (p := 7) (v := .tmp 6) rfl ?_); refine stB (w0 := w) (base := w.heap.size) (seg := [.slice (some ⟨g, 0, none⟩) r.f0.length c5]) (cs' := [.slice (some ⟨g, 0, none⟩) r.f0.length c5, .int .i64 r.f1, .int .i64 r.f2]) hB5.out hb5 (Nat.le_refl _) (h := fun w6 hB6 hb6 hg6 => ?_); (have HN6 := Aside0.mk (Kd.N_grown HN5.out hg6 (fun k hk he => by have := Option.some.inj he; omega))); (have hR6 := Aside0.mk (blk_grown hR5.out hg6 (fun he => by have := Option.some.inj he; omega))); (obtain ⟨x0, x1, x2⟩ := bx3 hB6))
    | ((with_reducible refine gate_store (t := 131) (p := 2) (v := .tmp 8) rfl ?_); refine stB (w0 := w) (base := w.heap.size) (seg := [.slice (some ⟨g, 0, none⟩) r.f0.length c5, .int .i64 r.f1, .int .i64 r.f2]) (cs' := [.slice (some ⟨g, 0, none⟩) r.f0.length c5, .int .i64 r.f1, .int .i64 r.f2]) hR6.out hb6 (by omega) (h := fun w7 hR7 hb7 hg7 => ?_)))
  (try simp only [Exit.inBlock, Exit.then])
  refine bodyPost_ret (results_single (r := .cell 2 131) rfl (.cell _ 131 _ (0, 0) _ rfl hR7 Tryz.underlying131 rfl (by kernel_rfl) .nil)) rfl ?_
  have hN7 := Kd.N_grown HN6.out hg7 (fun k hk he => by have := Option.some.inj he; omega)
  exact ⟨g, c5, rfl, Kd.N_mono (N_tight flatI hN7) (fun k hk => Kd.N_base hN7 k hk.symm), hb7⟩
def ring_Push.T6 : Bool × List (List Nat × List Nat) := (true, [([], []), ([0], [0]), ([], []), ([], []), ([3], [3]), ([2, 4], [2, 4]), ([], []), ([1, 5, 0, 1, 2, 3, 4, 5, 6], [1, 5]), ([7, 6, 5, 0, 1, 2, 3, 4, 5, 6], [6, 7])])
def ring_Push.B6 : List Nat := [0, 1, 0, 0, 8, 28, 0, 127, 255]
theorem ring_Push.tab6 : rtab .any (opsOf Tryz.f103 6) = ring_Push.T6 := by kernel_rfl
theorem ring_Push.bits6 : waitsOk ring_Push.T6.2 ring_Push.B6 = true := by kernel_rfl
theorem N_rebase {α : Type} {d : Kd α} {e base base' : Nat} {w : World} {ok : Nat → Prop} {v : Value} {xs : List α} (h : Kd.N d e w base ok v xs) (hb : base' ≤ base) : Kd.N d e w base' ok v xs := by
  obtain ⟨h0, rows, hl, ⟨h1, inner, hown, hr⟩, hf⟩ := h
  refine ⟨h0, rows, hl, ⟨h1, inner, ?_, hr⟩, hf⟩
  rcases hown with ⟨hx, h | ⟨g, cap, cur, hv, hbb, rest⟩⟩
  · exact ⟨hx, .inl h⟩
  · exact ⟨hx, .inr ⟨g, cap, cur, hv, Nat.le_trans hb hbb, rest⟩⟩
def newR (n : Int) : S131 := ⟨List.replicate n.toNat 0, 0, 0⟩
theorem ring_New.calls (n : Int) (w : World) (h1 : 1 ≤ n) (h4 : n ≤ 4) : Calls Tryz.prog 54 #[.int .i64 n] w fun e w' => ∃ cs', e = .returned (.tuple #[.agg cs'.toArray, .int .i64 0]) ∧ Kd.FK k131 w' (fun k => w.heap.size ≤ k) (newR n) cs' ∧ Below w.heap.size w w' := by
  have hu := Tryz.underlying131
  have hR0 := blk_new w (.cells #[.slice none 0 0, .int .i64 0, .int .i64 0] 131)
  have hz1 : (w.alloc (.cells #[.slice none 0 0, .int .i64 0, .int .i64 0] 131)).heap.size = w.heap.size + 1 := alsz
  go_enter Tryz.func54, Tryz.ntmps54
  go_wp2_with (first
    | ((with_reducible refine gate_ (.makeSlice 33 (.tmp 11) (.tmp 11)) rfl ?_); refine Kd.N_make (Kd.int .i64) (w0 := w) w.heap.size 3 rfl rfl 33 (.tmp 11) (.tmp 11) rfl n rfl rfl Tryz.underlying33 (.int .i64 0) 8 (by kernel_rfl) rfl (by decide) (by decide) (0 : Int) (ok := fun k => w.heap.size + 1 ≤ k) (okp := fun _ => False) (fun _ _ => rfl) (fun _ h => h.elim) (by rw [hz1]; omega) (by omega) (by omega) bl1 (by rw [hz1]; omega) (fun v5 w5 hN5 hb5 hg5 hat5 => ?_); (obtain ⟨A5, c5, rfl⟩ := Kd.N_slice hN5); (have hc5 := (Kd.N_reads' hN5).2.1); (have HN5 := Aside0.mk hN5); (have hR5 := Aside0.mk (blk_grown hR0 hg5 (fun he => by cases he))); clear hN5)
    | ((with_reducible refine gate_store (t := 131) (p := 2) (v := .tmp 13) rfl ?_); refine stB (w0 := w) (base := w.heap.size) (seg := [.slice A5 n.toNat c5, .int .i64 0, .int .i64 0]) (cs' := [.slice A5 n.toNat c5, .int .i64 0, .int .i64 0]) hR5.out hb5 (Nat.le_refl _) (h := fun w6 hR6 hb6 hg6 => ?_)))
  (try simp only [Exit.inBlock, Exit.then])
  refine bodyPost_ret (results_list (rs := [.cell 2 131, .tmp 3]) rfl (by simp) (.cell _ 131 _ (0, 0) _ rfl hR6 Tryz.underlying131 rfl (by kernel_rfl) (.tmp .nil))) rfl ?_
  have hN6 := Kd.N_grown HN5.out hg6 (fun k hk he => by have := Option.some.inj he; omega)
  rw [List.length_replicate] at hc5
  have hl6 : (List.replicate n.toNat (0 : Int)).length = n.toNat := List.length_replicate
  have hF6 := Kd.F_mono (ok' := fun k => w.heap.size ≤ k) (Kd.N_F hN6) (fun k hk => by omega)
  refine ⟨_, rfl, ?_, hb6⟩
  have hfin := k131_mkF w6 (fun k => w.heap.size ≤ k) (newR n) (A0 := A5) (c0 := c5) (by show (List.replicate n.toNat (0 : Int)).length ≤ c5; omega) hF6
  simp only [newR, hl6] at hfin
  exact hfin
def pushR (r : S131) (v : Int) : S131 × Int := if r.f2 = r.f0.length then (r, 3) else (⟨r.f0.set ((r.f1 + r.f2) % r.f0.length).toNat v, r.f1, r.f2 + 1⟩, 0)
theorem ring_Push.calls (r : S131) (cs : List Value) (v : Int) (ok : Nat → Prop) (w : World) (h : Kd.FK k131 w ok r cs) (hR : ringR r = true) (h4 : r.f0.length ≤ 4) :
    Calls Tryz.prog 103 #[.agg cs.toArray, .int .i64 v] w fun e w' => ∃ cs', e = .returned (.tuple #[.agg cs'.toArray, .int .i64 (pushR r v).2]) ∧ Kd.FK k131 w' (nw ok w) (pushR r v).1 cs' ∧ Below w.heap.size w w' := by
  have hu := Tryz.underlying131
  have hrb := ringR_iff.1 hR
  have HR := Aside0.mk hR
  obtain ⟨A, c, rfl, lc, g0⟩ := k131_openF h
  have H := Aside0.mk h
  have G0 := Aside0.mk (Kd.F_bound g0)
  clear h g0 hR
  have z1 : (w.alloc (.cells #[.slice A r.f0.length c, .int .i64 r.f1, .int .i64 r.f2] 131)).heap.size = w.heap.size + 1 := alsz
  have hB0 := blk_al (blk_new w (.cells #[.slice A r.f0.length c, .int .i64 r.f1, .int .i64 r.f2] 131)) (.cells #[.slice none 0 0, .int .i64 0, .int .i64 0] 131)
  have hR0 := blk_new (w.alloc (.cells #[.slice A r.f0.length c, .int .i64 r.f1, .int .i64 r.f2] 131)) (.cells #[.slice none 0 0, .int .i64 0, .int .i64 0] 131)
  rw [z1] at hR0
  have hb := @bl2 w (.cells #[.slice A r.f0.length c, .int .i64 r.f1, .int .i64 r.f2] 131) (.cells #[.slice none 0 0, .int .i64 0, .int .i64 0] 131)
  have z2 : ((w.alloc (.cells #[.slice A r.f0.length c, .int .i64 r.f1, .int .i64 r.f2] 131)).alloc (.cells #[.slice none 0 0, .int .i64 0, .int .i64 0] 131)).heap.size = w.heap.size + 2 := by rw [alsz, z1]
  go_enter Tryz.func103, Tryz.ntmps103
  go_wp2_with fail
  refine (ring_Right.calls r A c _ HR.out h4).mono ?_; rintro _ w2 ⟨rfl, hb2⟩
  have hB2 := blk_below hB0 hb2
  have hR2 := blk_below hR0 hb2
  have hbA := below_step hb hb2
  have hs2 := hb2.size
  rw [z2] at hs2
  clear hB0 hR0 hb hb2 z1 z2
  obtain ⟨x0, x1, x2⟩ := bx3 hB2
  by_cases cf : r.f2 = r.f0.length
  · have hv := Aside0.mk (show pushR r v = (r, 3) from if_pos cf)
    have cf2 : (r.f2 == (r.f0.length : Int)) = true := by simpa using cf
    clear cf
    go_wp2_with ((with_reducible refine gate_store (t := 131) (p := 4) (v := .tmp 18) rfl ?_); refine stB (w0 := w) (base := w.heap.size) (seg := [.slice A r.f0.length c, .int .i64 r.f1, .int .i64 r.f2]) (cs' := [.slice A r.f0.length c, .int .i64 r.f1, .int .i64 r.f2]) hR2 hbA (by omega) (h := fun wy hBy hby hgy => ?_))
    (try simp only [Exit.inBlock, Exit.then])
    refine bodyPost_ret (results_list (rs := [.cell 4 131, .tmp 5]) rfl (by simp) (.cell _ 131 _ (0, 0) _ rfl hBy Tryz.underlying131 rfl (by kernel_rfl) (.tmp .nil))) rfl ?_
    exact ⟨_, by rw [hv.out]; rfl, by rw [hv.out]; exact Kd.FK_mono (Kd.FK_below H.out hby) (fun k hk => Or.inl hk), hby⟩
  · have hm0 := Int.emod_nonneg (r.f1 + r.f2) (show (r.f0.length : Int) ≠ 0 by omega)
    have hm1 := Int.emod_lt_of_pos (r.f1 + r.f2) (show 0 < (r.f0.length : Int) by omega)
    obtain ⟨k, hk⟩ : ∃ k : Nat, (r.f1 + r.f2) % r.f0.length = k := ⟨((r.f1 + r.f2) % r.f0.length).toNat, by omega⟩
    have hat : ∀ g c5 W, Ret 105 #[vR r (some ⟨g, 0, none⟩) c5, .int .i64 r.f2] W (.int .i64 k) := fun g c5 W => by have := ring_at.calls r (some ⟨g, 0, none⟩) c5 r.f2 W HR.out h4 (by omega) (by omega); rwa [hk] at this
    have hkl : k < r.f0.length := by omega
    have hv := Aside0.mk (show pushR r v = (⟨r.f0.set k v, r.f1, r.f2 + 1⟩, 0) by unfold pushR; rw [if_neg cf, hk, Int.toNat_natCast])
    have cf2 : (r.f2 == (r.f0.length : Int)) = false := by simpa using cf
    clear cf hm0 hm1 hk
    go_wp2_with fail
    refine (ring_own.calls r A c (fun k => ok k ∧ k < w.heap.size) w2 (Kd.F_below G0.out hbA) h4 hrb.1).mono ?_; rintro _ w3 ⟨g, c5, rfl, hN3, hb3⟩
    have hB3 := blk_below hB2 hb3
    have hR3 := blk_below hR2 hb3
    have hbB := below_step hbA hb3
    have hg3 := Kd.N_base hN3 g rfl
    have hN3 := N_rebase hN3 hbA.size
    have hs3 := hb3.size
    clear x0 x1 x2
    go_wp2_with ((with_reducible refine gate_store (t := 131) (p := 2) (v := .tmp 20) rfl ?_); refine stB (w0 := w) (base := w.heap.size) (seg := [.slice (some ⟨g, 0, none⟩) r.f0.length c5, .int .i64 r.f1, .int .i64 r.f2]) (cs' := [.slice (some ⟨g, 0, none⟩) r.f0.length c5, .int .i64 r.f1, .int .i64 r.f2]) hB3 hbB (Nat.le_refl _) (h := fun w4 hB4 hb4 hg4 => ?_))
    have HN4 := Aside0.mk (Kd.N_grown hN3 hg4 (fun k hk he => by have := Option.some.inj he; omega))
    have hR4 := blk_grown hR3 hg4 (fun he => by have := Option.some.inj he; omega)
    obtain ⟨x0, x1, x2⟩ := bx3 hB4
    refine st_ 9 (fun w' => Below w4.heap.size w4 w' ∧ w'.cell? (⟨w.heap.size, 0, none⟩) = some (.slice (some ⟨g, 0, none⟩) r.f0.length c5) ∧ w'.cell? (⟨w.heap.size, 1, none⟩) = some (.int .i64 r.f1) ∧ w'.cell? (⟨w.heap.size, 2, none⟩) = some (.int .i64 r.f2)) [8] ring_Push.tab6 ring_Push.bits6 ⟨below_drew1 bl0, x0, x1, x2⟩ (h := fun HT HW hHeld => ?_)
    repeat (first | refine pn_ HT (h := ?_) | refine tn_ HT HW hHeld (h := ?_) | refine zn_ HT (h := ?_))
    refine oc_ HT ((hat g c5 _)) (hS := fun w3 hb3 => ⟨below_step (hHeld.1) hb3, be_cell hb3 (hHeld.2.1), be_cell hb3 (hHeld.2.2.1), be_cell hb3 (hHeld.2.2.2)⟩) (h := fun w3 hb3 hHeld => ?_)
    have hb5 : Below w4.heap.size w4 w3 := (hHeld.1)
    repeat (first | refine pn_ HT (h := ?_) | refine tn_ HT HW hHeld (h := ?_) | refine zn_ HT (h := ?_))
    refine ln_ HT (h := fun K hK => ?_)
    refine stNI_step (w0 := w) (Kd.N_below HN4.out hb5) hkl (Below.trans hb4 (Below.mono hb5 hb4.size)) (h := fun w6 hN6 hb6 hg6 => ?_)
    refine hK.out _ _ ?_
    repeat (first | refine pn_ HT (h := ?_) | refine zn_ HT (h := ?_))
    refine dn_ HT (h := ?_)
    clear HT HW hHeld x0 x1 x2
    have hB6 := blk_grown (blk_below hB4 hb5) hg6 (fun he => by have := Option.some.inj he; omega)
    have hR6 := blk_grown (blk_below hR4 hb5) hg6 (fun he => by have := Option.some.inj he; omega)
    have HN6 := Aside0.mk hN6
    have hgl6 := Kd.N_lt hN6 g rfl
    clear hN6
    obtain ⟨x0, x1, x2⟩ := bx3 hB6
    go_wp2_with (first
      | ((with_reducible refine gate_store (t := 3) (p := 32) (v := .tmp 31) rfl ?_); refine stB (w0 := w) (base := w.heap.size) (seg := [.int .i64 (r.f2 + 1)]) (cs' := [.slice (some ⟨g, 0, none⟩) r.f0.length c5, .int .i64 r.f1, .int .i64 (r.f2 + 1)]) hB6 hb6 (Nat.le_refl _) (h := fun w7 hB7 hb7 hg7 => ?_); (have HN7 := Aside0.mk (Kd.N_grown HN6.out hg7 (fun k hk he => by have := Option.some.inj he; omega))); (have hR7 := Aside0.mk (blk_grown hR6 hg7 (fun he => by have := Option.some.inj he; omega))); clear x0 x1 x2; (obtain ⟨x0, x1, x2⟩ := bx3 hB7))
      | ((with_reducible refine gate_store (t := 131) (p := 4) (v := .tmp 33) rfl ?_); refine stB (w0 := w) (base := w.heap.size) (seg := [.slice (some ⟨g, 0, none⟩) r.f0.length c5, .int .i64 r.f1, .int .i64 (r.f2 + 1)]) (cs' := [.slice (some ⟨g, 0, none⟩) r.f0.length c5, .int .i64 r.f1, .int .i64 (r.f2 + 1)]) hR7.out hb7 (by omega) (h := fun wy hBy hby hgy => ?_)))
    (try simp only [Exit.inBlock, Exit.then])
    refine bodyPost_ret (results_list (rs := [.cell 4 131, .tmp 5]) rfl (by simp) (.cell _ 131 _ (0, 0) _ rfl hBy Tryz.underlying131 rfl (by kernel_rfl) (.tmp .nil))) rfl ?_
    have hNy := Kd.N_grown HN7.out hgy (fun k hk he => by have := Option.some.inj he; omega)
    have hlen : (r.f0.set k v).length = r.f0.length := List.length_set
    have hcy := (Kd.N_reads' hNy).2.1
    refine ⟨_, by rw [hv.out]; rfl, ?_, hby⟩
    rw [hv.out]
    have hfin := k131_mkF wy (nw ok w) ⟨r.f0.set k v, r.f1, r.f2 + 1⟩ (A0 := some ⟨g, 0, none⟩) (c0 := c5) (by show (r.f0.set k v).length ≤ c5; omega) (by show Kd.F _ _ _ _ (r.f0.set k v).length _; rw [hlen]; exact Kd.F_mono (Kd.N_F hNy) (fun k hk => Or.inr (by omega)))
    simp only [hlen] at hfin
    exact hfin
def ring_Pop.T4 : Bool × List (List Nat × List Nat) := (true, [([], []), ([], []), ([0, 1, 0, 1], [0]), ([2, 0, 1, 2], [])])
def ring_Pop.B4 : List Nat := [0, 0, 3, 7]
theorem ring_Pop.tab4 : rtab .any (opsOf Tryz.f71 4) = ring_Pop.T4 := by kernel_rfl
theorem ring_Pop.bits4 : waitsOk ring_Pop.T4.2 ring_Pop.B4 = true := by kernel_rfl
def ring_Pop.T9 : Bool × List (List Nat × List Nat) := (true, [([], []), ([], []), ([0, 0], [0]), ([1, 2, 0, 1, 2], [1]), ([3, 0, 1, 2, 3], [])])
def ring_Pop.B9 : List Nat := [0, 0, 1, 7, 15]
theorem ring_Pop.tab9 : rtab .any (opsOf Tryz.f71 9) = ring_Pop.T9 := by kernel_rfl
theorem ring_Pop.bits9 : waitsOk ring_Pop.T9.2 ring_Pop.B9 = true := by kernel_rfl
def popR (r : S131) : Int × S131 × Int := if r.f2 = 0 then (0, r, 4) else (r.f0.getD r.f1.toNat 0, ⟨r.f0, (r.f1 + 1) % r.f0.length, r.f2 - 1⟩, 0)
theorem ring_Pop.calls (r : S131) (cs : List Value) (ok : Nat → Prop) (w : World) (h : Kd.FK k131 w ok r cs) (hR : ringR r = true) (h4 : r.f0.length ≤ 4) :
    Calls Tryz.prog 71 #[.agg cs.toArray] w fun e w' => ∃ cs', e = .returned (.tuple #[.int .i64 (popR r).1, .agg cs'.toArray, .int .i64 (popR r).2.2]) ∧ Kd.FK k131 w' (nw ok w) (popR r).2.1 cs' ∧ Below w.heap.size w w' := by
  have hu := Tryz.underlying131
  have hrb := ringR_iff.1 hR
  have HR := Aside0.mk hR
  obtain ⟨A, c, rfl, lc, g0⟩ := k131_openF h
  have H := Aside0.mk h
  have G0 := Aside0.mk (Kd.F_bound g0)
  clear h g0 hR
  have z1 : (w.alloc (.cells #[.slice A r.f0.length c, .int .i64 r.f1, .int .i64 r.f2] 131)).heap.size = w.heap.size + 1 := alsz
  have hB0 := blk_al (blk_new w (.cells #[.slice A r.f0.length c, .int .i64 r.f1, .int .i64 r.f2] 131)) (.cells #[.slice none 0 0, .int .i64 0, .int .i64 0] 131)
  have hR0 := blk_new (w.alloc (.cells #[.slice A r.f0.length c, .int .i64 r.f1, .int .i64 r.f2] 131)) (.cells #[.slice none 0 0, .int .i64 0, .int .i64 0] 131)
  rw [z1] at hR0
  have hb := @bl2 w (.cells #[.slice A r.f0.length c, .int .i64 r.f1, .int .i64 r.f2] 131) (.cells #[.slice none 0 0, .int .i64 0, .int .i64 0] 131)
  have z2 : ((w.alloc (.cells #[.slice A r.f0.length c, .int .i64 r.f1, .int .i64 r.f2] 131)).alloc (.cells #[.slice none 0 0, .int .i64 0, .int .i64 0] 131)).heap.size = w.heap.size + 2 := by rw [alsz, z1]
  go_enter Tryz.func71, Tryz.ntmps71
  go_wp2_with fail
  refine (ring_Right.calls r A c _ HR.out h4).mono ?_; rintro _ w2 ⟨rfl, hb2⟩
  have hB2 := blk_below hB0 hb2
  have hR2 := blk_below hR0 hb2
  have hbA := below_step hb hb2
  have hs2 := hb2.size
  rw [z2] at hs2
  clear hB0 hR0 hb hb2 z1 z2
  obtain ⟨x0, x1, x2⟩ := bx3 hB2
  by_cases cf : r.f2 = 0
  · have hv := Aside0.mk (show popR r = (0, r, 4) from if_pos cf)
    have cf2 : (r.f2 == 0) = true := by simpa using cf
    clear cf
    go_wp2
    refine st_ 4 (fun w' => Below w2.heap.size w2 w' ∧ w'.cell? (⟨w.heap.size, 0, none⟩) = some (.slice A r.f0.length c) ∧ w'.cell? (⟨w.heap.size, 1, none⟩) = some (.int .i64 r.f1) ∧ w'.cell? (⟨w.heap.size, 2, none⟩) = some (.int .i64 r.f2)) [2] ring_Pop.tab4 ring_Pop.bits4 ⟨below_drew1 bl0, x0, x1, x2⟩ (h := fun HT HW hHeld => ?_)
    repeat (first | refine pn_ HT (h := ?_) | refine tn_ HT HW hHeld (h := ?_) | refine zn_ HT (h := ?_))
    refine ln_ HT (h := fun K hK => ?_)
    refine stB_step (w0 := w) (base := w.heap.size) (seg := [.slice A r.f0.length c, .int .i64 r.f1, .int .i64 r.f2]) (cs' := [.slice A r.f0.length c, .int .i64 r.f1, .int .i64 r.f2]) (blk_below hR2 (hHeld.1)) (Below.trans hbA (Below.mono (hHeld.1) hbA.size)) (by omega) (h := fun wy hBy hby hgy => ?_)
    refine hK.out _ _ ?_
    repeat (first | refine pn_ HT (h := ?_) | refine zn_ HT (h := ?_))
    refine dn_ HT (h := ?_)
    go_wp2
    (try simp only [Exit.inBlock, Exit.then])
    refine bodyPost_ret (results_list (rs := [.tmp 2, .cell 3 131, .tmp 4]) rfl (by simp) (.tmp (.cell _ 131 _ (0, 0) _ rfl hBy Tryz.underlying131 rfl (by kernel_rfl) (.tmp .nil)))) rfl ?_
    exact ⟨_, by rw [hv.out]; rfl, by rw [hv.out]; exact Kd.FK_mono (Kd.FK_below H.out hby) (fun k hk => Or.inl hk), hby⟩
  · have hm0 := Int.emod_nonneg (r.f1 + 1) (show (r.f0.length : Int) ≠ 0 by omega)
    have hm1 := Int.emod_lt_of_pos (r.f1 + 1) (show 0 < (r.f0.length : Int) by omega)
    obtain ⟨k, hk⟩ : ∃ k : Nat, r.f1 = k := ⟨r.f1.toNat, by omega⟩
    have hkl : k < r.f0.length := by omega
    obtain ⟨m, hm⟩ : ∃ m, (r.f1 + 1) % r.f0.length = m := ⟨_, rfl⟩
    have hat : ∀ g c5 W, Ret 105 #[.agg #[.slice (some ⟨g, 0, none⟩) r.f0.length c5, .int .i64 k, .int .i64 r.f2], .int .i64 1] W (.int .i64 m) := fun g c5 W => by have := ring_at.calls r (some ⟨g, 0, none⟩) c5 1 W HR.out h4 (by omega) (by omega); rw [hm] at this; rw [← hk]; exact this
    have hv := Aside0.mk (show popR r = (r.f0[k], ⟨r.f0, m, r.f2 - 1⟩, 0) by unfold popR; rw [if_neg cf, hm, hk, Int.toNat_natCast, List.getD_eq_getElem?_getD, List.getElem?_eq_getElem hkl]; rfl)
    have HK := Aside0.mk hk
    have cf2 : (r.f2 == 0) = false := by simpa using cf
    clear hm hk
    go_wp2_with fail
    refine (ring_own.calls r A c (fun k => ok k ∧ k < w.heap.size) w2 (Kd.F_below G0.out hbA) h4 hrb.1).mono ?_; rintro _ w3 ⟨g, c5, rfl, hN3, hb3⟩
    have hB3 := blk_below hB2 hb3
    have hR3 := blk_below hR2 hb3
    have hbB := below_step hbA hb3
    have hg3 := Kd.N_base hN3 g rfl
    have hN3 := N_rebase hN3 hbA.size
    have hs3 := hb3.size
    clear x0 x1 x2
    have HN3 := Aside0.mk hN3
    go_wp2_with (first
      | ((with_reducible refine gate_store (t := 131) (p := 1) (v := .tmp 17) rfl ?_); refine stB (w0 := w) (base := w.heap.size) (seg := [.slice (some ⟨g, 0, none⟩) r.f0.length c5, .int .i64 r.f1, .int .i64 r.f2]) (cs' := [.slice (some ⟨g, 0, none⟩) r.f0.length c5, .int .i64 r.f1, .int .i64 r.f2]) hB3 hbB (Nat.le_refl _) (h := fun w4 hB4 hb4 hg4 => ?_); (have HN4 := Aside0.mk (Kd.N_grown HN3.out hg4 (fun k hk he => by have := Option.some.inj he; omega))); (have hR4 := Aside0.mk (blk_grown hR3 hg4 (fun he => by have := Option.some.inj he; omega))); (obtain ⟨x0, x1, x2⟩ := bx3 hB4); rw [HK.out] at x1; (obtain ⟨adx, tx, hax, htx, hcx⟩ := elI (Kd.N_reads' HN4.out).2.2 k hkl); (obtain rfl := Option.some.inj hax); rw [show (⟨g, 0, none⟩ : Addr).add k = ⟨g, k, none⟩ from by (unfold Addr.add; split <;> simp_all)] at hcx))
    refine (hat g c5 w4).mono ?_; rintro _ w5 ⟨rfl, hb5⟩
    have hB5 := blk_below hB4 hb5
    have hR5 := blk_below hR4.out hb5
    have HN5 := Aside0.mk (Kd.N_below HN4.out hb5)
    have hbw5 := Below.trans hb4 (Below.mono hb5 hb4.size)
    clear x0 x1 x2 hcx
    go_wp2_with (first
      | ((with_reducible refine gate_store (t := 3) (p := 26) (v := .tmp 25) rfl ?_); refine stB (w0 := w) (base := w.heap.size) (seg := [.int .i64 m]) (cs' := [.slice (some ⟨g, 0, none⟩) r.f0.length c5, .int .i64 m, .int .i64 r.f2]) hB5 hbw5 (Nat.le_refl _) (h := fun w6 hB6 hb6 hg6 => ?_); (have HN6 := Aside0.mk (Kd.N_grown HN5.out hg6 (fun k hk he => by have := Option.some.inj he; omega))); (have hR6 := Aside0.mk (blk_grown hR5 hg6 (fun he => by have := Option.some.inj he; omega))); (obtain ⟨x0, x1, x2⟩ := bx3 hB6))
      | ((with_reducible refine gate_store (t := 3) (p := 30) (v := .tmp 29) rfl ?_); refine stB (w0 := w) (base := w.heap.size) (seg := [.int .i64 (r.f2 - 1)]) (cs' := [.slice (some ⟨g, 0, none⟩) r.f0.length c5, .int .i64 m, .int .i64 (r.f2 - 1)]) hB6 hb6 (Nat.le_refl _) (h := fun w7 hB7 hb7 hg7 => ?_); (have HN7 := Aside0.mk (Kd.N_grown HN6.out hg7 (fun k hk he => by have := Option.some.inj he; omega))); (have hR7 := Aside0.mk (blk_grown hR6.out hg7 (fun he => by have := Option.some.inj he; omega))); clear x0 x1 x2; (obtain ⟨x0, x1, x2⟩ := bx3 hB7)))
    refine st_ 5 (fun w' => Below w7.heap.size w7 w' ∧ w'.cell? (⟨w.heap.size, 0, none⟩) = some (.slice (some ⟨g, 0, none⟩) r.f0.length c5) ∧ w'.cell? (⟨w.heap.size, 1, none⟩) = some (.int .i64 m) ∧ w'.cell? (⟨w.heap.size, 2, none⟩) = some (.int .i64 (r.f2 - 1))) [3] ring_Pop.tab9 ring_Pop.bits9 ⟨below_drew1 bl0, x0, x1, x2⟩ (h := fun HT HW hHeld => ?_)
    repeat (first | refine pn_ HT (h := ?_) | refine tn_ HT HW hHeld (h := ?_) | refine zn_ HT (h := ?_))
    refine ln_ HT (h := fun K hK => ?_)
    refine stB_step (w0 := w) (base := w.heap.size) (seg := [.slice (some ⟨g, 0, none⟩) r.f0.length c5, .int .i64 m, .int .i64 (r.f2 - 1)]) (cs' := [.slice (some ⟨g, 0, none⟩) r.f0.length c5, .int .i64 m, .int .i64 (r.f2 - 1)]) (blk_below hR7.out (hHeld.1)) (Below.trans hb7 (Below.mono (hHeld.1) hb7.size)) (by omega) (h := fun wy hBy hby hgy => ?_)
    have hNy := Kd.N_grown (Kd.N_below HN7.out (hHeld.1)) hgy (fun k hk he => by have := Option.some.inj he; omega)
    refine hK.out _ _ ?_
    repeat (first | refine pn_ HT (h := ?_) | refine zn_ HT (h := ?_))
    refine dn_ HT (h := ?_)
    go_wp2
    (try simp only [Exit.inBlock, Exit.then])
    refine bodyPost_ret (results_list (rs := [.tmp 2, .cell 3 131, .tmp 4]) rfl (by simp) (.tmp (.cell _ 131 _ (0, 0) _ rfl hBy Tryz.underlying131 rfl (by kernel_rfl) (.tmp .nil)))) rfl ?_
    have hcy := (Kd.N_reads' hNy).2.1
    refine ⟨_, by rw [hv.out, htx.out]; rfl, ?_, hby⟩
    rw [hv.out]
    exact k131_mkF wy (nw ok w) ⟨r.f0, m, r.f2 - 1⟩ (A0 := some ⟨g, 0, none⟩) (c0 := c5) hcy (Kd.F_mono (Kd.N_F hNy) (fun k hk => Or.inr (by omega)))
theorem ringR_pop {r : S131} (h : ringR r = true) : ringR (popR r).2.1 = true ∧ (popR r).2.1.f0.length = r.f0.length := by
  have hb := ringR_iff.1 h
  unfold popR
  split
  · exact ⟨h, rfl⟩
  · have hm0 := Int.emod_nonneg (r.f1 + 1) (show (r.f0.length : Int) ≠ 0 by omega)
    have hm1 := Int.emod_lt_of_pos (r.f1 + 1) (show 0 < (r.f0.length : Int) by omega)
    exact ⟨ringR_iff.2 ⟨hb.1, hm0, hm1, by show 0 ≤ r.f2 - 1; omega, by show r.f2 - 1 ≤ (r.f0.length : Int); omega⟩, rfl⟩
theorem ringR_push {r : S131} (v : Int) (h : ringR r = true) : ringR (pushR r v).1 = true ∧ (pushR r v).1.f0.length = r.f0.length := by
  have hb := ringR_iff.1 h
  unfold pushR
  split
  · exact ⟨h, rfl⟩
  · exact ⟨ringR_iff.2 ⟨by show 0 < (List.set _ _ _).length; rw [List.length_set]; exact hb.1, hb.2.1, by show r.f1 < ((List.set _ _ _).length : Nat); rw [List.length_set]; exact hb.2.2.1, by show 0 ≤ r.f2 + 1; omega, by show r.f2 + 1 ≤ ((List.set _ _ _).length : Nat); rw [List.length_set]; omega⟩, List.length_set⟩
def putR (r : S131) (v : Int) : S131 := if (pushR r v).2 = 3 then (pushR (popR r).2.1 v).1 else (pushR r v).1
theorem ringR_put {r : S131} (v : Int) (h : ringR r = true) : ringR (putR r v) = true ∧ (putR r v).f0.length = r.f0.length := by
  unfold putR
  split
  · have h1 := ringR_pop h
    have h2 := ringR_push v h1.1
    exact ⟨h2.1, h2.2.trans h1.2⟩
  · exact ringR_push v h
theorem ring_Put.calls (r : S131) (cs : List Value) (v : Int) (ok : Nat → Prop) (w : World) (h : Kd.FK k131 w ok r cs) (hR : ringR r = true) (h4 : r.f0.length ≤ 4) :
    Calls Tryz.prog 72 #[.agg cs.toArray, .int .i64 v] w fun e w' => ∃ cs', e = .returned (.agg cs'.toArray) ∧ Kd.FK k131 w' (nw ok w) (putR r v) cs' ∧ Below w.heap.size w w' := by
  have hu := Tryz.underlying131
  have HR := Aside0.mk hR
  have HRP := Aside0.mk (ringR_pop hR)
  obtain ⟨A, c, rfl, lc, -⟩ := k131_openF h
  have H := Aside0.mk (Kd.FK_bound h)
  clear h hR
  have z1 : (w.alloc (.cells #[.slice A r.f0.length c, .int .i64 r.f1, .int .i64 r.f2] 131)).heap.size = w.heap.size + 1 := alsz
  have hB0 := blk_al (blk_new w (.cells #[.slice A r.f0.length c, .int .i64 r.f1, .int .i64 r.f2] 131)) (.cells #[.slice none 0 0, .int .i64 0, .int .i64 0] 131)
  have hR0 := blk_new (w.alloc (.cells #[.slice A r.f0.length c, .int .i64 r.f1, .int .i64 r.f2] 131)) (.cells #[.slice none 0 0, .int .i64 0, .int .i64 0] 131)
  rw [z1] at hR0
  have hb := @bl2 w (.cells #[.slice A r.f0.length c, .int .i64 r.f1, .int .i64 r.f2] 131) (.cells #[.slice none 0 0, .int .i64 0, .int .i64 0] 131)
  have z2 : ((w.alloc (.cells #[.slice A r.f0.length c, .int .i64 r.f1, .int .i64 r.f2] 131)).alloc (.cells #[.slice none 0 0, .int .i64 0, .int .i64 0] 131)).heap.size = w.heap.size + 2 := by rw [alsz, z1]
  go_enter Tryz.func72, Tryz.ntmps72
  go_wp2_with fail
  refine (ring_Push.calls r [.slice A r.f0.length c, .int .i64 r.f1, .int .i64 r.f2] v (fun k => ok k ∧ k < w.heap.size) _ (Kd.FK_below H.out hb) HR.out h4).mono ?_; rintro _ w2 ⟨cs2, rfl, hF2, hb2⟩
  have hB2 := blk_below hB0 hb2
  have hR2 := blk_below hR0 hb2
  have hbA := below_step hb hb2
  have hs2 := hb2.size
  rw [z2] at hs2
  have hv0 := Aside0.mk (show putR r v = if (pushR r v).2 = 3 then (pushR (popR r).2.1 v).1 else (pushR r v).1 from rfl)
  generalize pushR r v = p at hF2 hv0 ⊢
  have HF2 := Aside0.mk (Kd.FK_mono (ok' := fun k => (ok k ∧ k < w.heap.size) ∨ w.heap.size + 2 ≤ k) hF2 (fun k hk => hk.elim Or.inl (fun h => Or.inr (by rw [z2] at h; exact h))))
  obtain ⟨B, d, rfl, -, -⟩ := k131_openF hF2
  clear hF2 hB0 hR0 hb hb2 z1 z2
  have hX2 := blk_new w2 (.cells #[.slice none 0 0, .int .i64 0, .int .i64 0] 131)
  have hXb := below_alloc hbA (.cells #[.slice none 0 0, .int .i64 0, .int .i64 0] 131)
  have hXz : (w2.alloc (.cells #[.slice none 0 0, .int .i64 0, .int .i64 0] 131)).heap.size = w2.heap.size + 1 := alsz
  have hB3 := blk_al hB2 (.cells #[.slice none 0 0, .int .i64 0, .int .i64 0] 131)
  have hR3 := blk_al hR2 (.cells #[.slice none 0 0, .int .i64 0, .int .i64 0] 131)
  have HF3 := Aside0.mk (Kd.FK_below (Kd.FK_bound HF2.out) (@bl1 w2 (.cells #[.slice none 0 0, .int .i64 0, .int .i64 0] 131)))
  by_cases cp : p.2 = 3
  · have hv1 := Aside0.mk (hv0.out.trans (if_pos cp))
    have cp2 : (p.2 == 3) = true := by rw [cp]; rfl
    clear cp
    go_wp2_with ((with_reducible refine gate_store (t := 131) (p := 5) (v := .tmp 13) rfl ?_); refine stB (w0 := w) (base := w.heap.size) (seg := [.slice B p.1.f0.length d, .int .i64 p.1.f1, .int .i64 p.1.f2]) (cs' := [.slice B p.1.f0.length d, .int .i64 p.1.f1, .int .i64 p.1.f2]) hX2 hXb (by omega) (h := fun w3 hX3 hb3 hg3 => ?_); (have hB4 := Aside0.mk (blk_grown hB3 hg3 (fun he => by have h2 : w.heap.size = w2.heap.size := Option.some.inj he; omega))); (have hR4 := Aside0.mk (blk_grown hR3 hg3 (fun he => by have h2 : w.heap.size + 1 = w2.heap.size := Option.some.inj he; omega))); (have hs3 := hg3.size); (obtain ⟨x0, x1, x2⟩ := bx3 hB4.out))
    refine (ring_Pop.calls r [.slice A r.f0.length c, .int .i64 r.f1, .int .i64 r.f2] (fun k => ok k ∧ k < w.heap.size) w3 (Kd.FK_below H.out hb3) HR.out h4).mono ?_; rintro _ w4 ⟨cs4, rfl, hF4, hb4⟩
    have hpp := HRP.out
    generalize popR r = q3 at hF4 hv1 hpp ⊢
    obtain ⟨qv, q, qe⟩ := q3
    dsimp only at hF4 hv1 hpp ⊢
    have HQ := Aside0.mk hpp
    have hq4 : q.f0.length ≤ 4 := by rw [hpp.2]; exact h4
    have HF4 := Aside0.mk (Kd.FK_mono (ok' := fun k => (ok k ∧ k < w.heap.size) ∨ w.heap.size + 2 ≤ k) hF4 (fun k hk => hk.elim Or.inl (fun h => Or.inr (by omega))))
    obtain ⟨C, k, rfl, -, -⟩ := k131_openF hF4
    clear hF4 hpp
    have hB5 := blk_below hB4.out hb4
    have hR5 := blk_below hR4.out hb4
    have hbw5 := below_step hb3 hb4
    have hs4 := hb4.size
    clear x0 x1 x2
    go_wp2_with ((with_reducible refine gate_store (t := 131) (p := 2) (v := .tmp 22) rfl ?_); refine stB (w0 := w) (base := w.heap.size) (seg := [.slice C q.f0.length k, .int .i64 q.f1, .int .i64 q.f2]) (cs' := [.slice C q.f0.length k, .int .i64 q.f1, .int .i64 q.f2]) hB5 hbw5 (Nat.le_refl _) (h := fun w5 hB6 hb6 hg6 => ?_); (have hR6 := Aside0.mk (blk_grown hR5 hg6 (fun he => by have h2 : w.heap.size + 1 = w.heap.size := Option.some.inj he; omega))); (have HF6 := Aside0.mk (Kd.FK_grown HF4.out hg6 (fun k hk he => by have h2 : k = w.heap.size := Option.some.inj he; rcases hk with h | h <;> omega))); (have hs5 := hg6.size); (obtain ⟨x0, x1, x2⟩ := bx3 hB6))
    refine (ring_Push.calls q [.slice C q.f0.length k, .int .i64 q.f1, .int .i64 q.f2] v (fun k => (ok k ∧ k < w.heap.size) ∨ w.heap.size + 2 ≤ k) w5 HF6.out HQ.out.1 hq4).mono ?_; rintro _ w6 ⟨cs6, rfl, hF7, hb7⟩
    generalize pushR q v = s at hF7 hv1 ⊢
    have HF7 := Aside0.mk (Kd.FK_mono (ok' := fun k => (ok k ∧ k < w.heap.size) ∨ w.heap.size + 2 ≤ k) hF7 (fun k hk => hk.elim id (fun h => Or.inr (by omega))))
    obtain ⟨D, j, rfl, -, -⟩ := k131_openF hF7
    clear hF7
    have hR7 := blk_below hR6.out hb7
    have hbw7 := below_step hb6 hb7
    have hs6 := hb7.size
    clear x0 x1 x2
    have hX7 := blk_new w6 (.cells #[.slice none 0 0, .int .i64 0, .int .i64 0] 131)
    have hXb7 := below_alloc hbw7 (.cells #[.slice none 0 0, .int .i64 0, .int .i64 0] 131)
    have hR8 := blk_al hR7 (.cells #[.slice none 0 0, .int .i64 0, .int .i64 0] 131)
    have HF8 := Aside0.mk (Kd.FK_below (Kd.FK_bound HF7.out) (@bl1 w6 (.cells #[.slice none 0 0, .int .i64 0, .int .i64 0] 131)))
    go_wp2_with (first
      | ((with_reducible refine gate_store (t := 131) (p := 7) (v := .tmp 28) rfl ?_); refine stB (w0 := w) (base := w.heap.size) (seg := [.slice D s.1.f0.length j, .int .i64 s.1.f1, .int .i64 s.1.f2]) (cs' := [.slice D s.1.f0.length j, .int .i64 s.1.f1, .int .i64 s.1.f2]) hX7 hXb7 (by omega) (h := fun w8 hX8 hb8 hg8 => ?_); (have hR9 := Aside0.mk (blk_grown hR8 hg8 (fun he => by have h2 : w.heap.size + 1 = w6.heap.size := Option.some.inj he; omega))); (have HF9 := Aside0.mk (Kd.FK_grown HF8.out hg8 (fun k hk he => by have h2 : k = w6.heap.size := Option.some.inj he; have := hk.2; omega))); (obtain ⟨x0, x1, x2⟩ := bx3 hX8))
      | ((with_reducible refine gate_store (t := 131) (p := 4) (v := .tmp 30) rfl ?_); refine stB (w0 := w) (base := w.heap.size) (seg := [.slice D s.1.f0.length j, .int .i64 s.1.f1, .int .i64 s.1.f2]) (cs' := [.slice D s.1.f0.length j, .int .i64 s.1.f1, .int .i64 s.1.f2]) hR9.out hb8 (by omega) (h := fun wy hBy hby hgy => ?_)))
    (try simp only [Exit.inBlock, Exit.then])
    refine bodyPost_ret (results_single (r := .cell 4 131) rfl (.cell _ 131 _ (0, 0) _ rfl hBy Tryz.underlying131 rfl (by kernel_rfl) .nil)) rfl ?_
    refine ⟨_, rfl, ?_, hby⟩
    rw [hv1.out]
    exact Kd.FK_mono (Kd.FK_grown HF9.out hgy (fun k hk he => by have h2 : k = w.heap.size + 1 := Option.some.inj he; rcases hk.1 with h | h <;> omega)) (fun k hk => hk.1.elim (fun h => Or.inl h.1) (fun h => Or.inr (by omega)))
  · have hv1 := Aside0.mk (hv0.out.trans (if_neg cp))
    have cp2 : (p.2 == 3) = false := by simpa using cp
    clear cp
    go_wp2_with (first
      | ((with_reducible refine gate_store (t := 131) (p := 5) (v := .tmp 13) rfl ?_); refine stB (w0 := w) (base := w.heap.size) (seg := [.slice B p.1.f0.length d, .int .i64 p.1.f1, .int .i64 p.1.f2]) (cs' := [.slice B p.1.f0.length d, .int .i64 p.1.f1, .int .i64 p.1.f2]) hX2 hXb (by omega) (h := fun w3 hX3 hb3 hg3 => ?_); (have hR4 := Aside0.mk (blk_grown hR3 hg3 (fun he => by have h2 : w.heap.size + 1 = w2.heap.size := Option.some.inj he; omega))); (have HF4 := Aside0.mk (Kd.FK_grown HF3.out hg3 (fun k hk he => by have h2 : k = w2.heap.size := Option.some.inj he; have := hk.2; omega))); (obtain ⟨x0, x1, x2⟩ := bx3 hX3))
      | ((with_reducible refine gate_store (t := 131) (p := 4) (v := .tmp 17) rfl ?_); refine stB (w0 := w) (base := w.heap.size) (seg := [.slice B p.1.f0.length d, .int .i64 p.1.f1, .int .i64 p.1.f2]) (cs' := [.slice B p.1.f0.length d, .int .i64 p.1.f1, .int .i64 p.1.f2]) hR4.out hb3 (by omega) (h := fun wy hBy hby hgy => ?_)))
    (try simp only [Exit.inBlock, Exit.then])
    refine bodyPost_ret (results_single (r := .cell 4 131) rfl (.cell _ 131 _ (0, 0) _ rfl hBy Tryz.underlying131 rfl (by kernel_rfl) .nil)) rfl ?_
    refine ⟨_, rfl, ?_, hby⟩
    rw [hv1.out]
    exact Kd.FK_mono (Kd.FK_grown HF4.out hgy (fun k hk he => by have h2 : k = w.heap.size + 1 := Option.some.inj he; rcases hk.1 with h | h <;> omega)) (fun k hk => hk.1.elim (fun h => Or.inl h.1) (fun h => Or.inr (by omega)))
end Go.Proofs.YtmngaagojkihbaaGreat.FTop
