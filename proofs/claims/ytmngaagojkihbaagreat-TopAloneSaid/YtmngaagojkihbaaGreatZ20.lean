/- Contracts of functions that the statement TopAlone reaches, and plain lemmas. No condition. -/
import Derived.Test.YtmngaagojkihbaaGreatZ19
import Derived.ChangeMaps5
import Derived.Carry
namespace Go.Proofs.YtmngaagojkihbaaGreat.FTop
open Go.RowKit Go.Proofs.YtmngaagojkihbaaGreatW.PrintWords Go.Proofs.YtmngaagojkihbaaGreatW.PrintLast Go.Proofs.YtmngaagojkihbaaGreatW.PrintMore
attribute [local go_sem] max2_int min2_int max_two min_two
set_option linter.unusedVariables false
set_option linter.unusedSimpArgs false
set_option maxHeartbeats 8000000
set_option maxRecDepth 100000
theorem mapIns {W : World} {b : Nat} {es : Array MapEntry} {clock : Nat} {k : Int} {v : Value} (hB : W.heap[b]? = some (.map es clock)) (hk : Instr.findNow (.int .i64) (.int .i64 k) es.toList 0 = some none) :
    ∃ W', (Instr.mapUpdate 109 (.map (some b)) (.int .i64 k) v).run Tryz.prog W = .ok () W' ∧ W'.heap[b]? = some (.map (es.push { key := .int .i64 k, val := v, born := clock }) (clock + 1)) ∧ W.grownBy W' (some b) := by
  refine ⟨Go.ChangeMaps.setBlock W b (.map (es.push { key := .int .i64 k, val := v, born := clock }) (clock + 1)), ?_, Go.ChangeMaps.heap_setBlock_same hB _, ⟨rfl, rfl, rfl, by simp [Go.ChangeMaps.setBlock], fun i _ hi => Go.ChangeMaps.heap_setBlock_other hB _ (fun e => hi (by rw [e]))⟩⟩
  simp [Instr.mapUpdate, run_underlying Tryz.underlying109, Go.MapKept.run_getObj_map hB, Go.MapKept.run_checkKey Tryz.underlying3 (k := .int .i64 k) rfl, Go.MapKept.run_findKey Tryz.underlying3 hk, Go.MapKept.run_setObj_map _ hB, Result.andThen, Go.ChangeMaps.setBlock]
theorem mapLook {W : World} {b : Nat} {es : Array MapEntry} {clock : Nat} {k : Int} (hB : W.heap[b]? = some (.map es clock)) (r : Option (Nat × Value)) (hk : Instr.findNow (.int .i64) (.int .i64 k) es.toList 0 = some r) :
    (Instr.lookup 109 (.map (some b)) (.int .i64 k) false).run Tryz.prog W = .ok ((r.map (·.2)).getD .nilFunc) W := by
  cases r with
  | none => simp [Instr.lookup, run_underlying Tryz.underlying109, Go.MapKept.run_getObj_map hB, Go.MapKept.run_checkKey Tryz.underlying3 (k := .int .i64 k) rfl, Go.MapKept.run_findKey Tryz.underlying3 hk, Result.andThen, show (zeroValue 71).run Tryz.prog W = .ok .nilFunc W from by kernel_rfl]
  | some p => simp [Instr.lookup, run_underlying Tryz.underlying109, Go.MapKept.run_getObj_map hB, Go.MapKept.run_checkKey Tryz.underlying3 (k := .int .i64 k) rfl, Go.MapKept.run_findKey Tryz.underlying3 hk, Result.andThen]
theorem kernel_on.calls (n : Nat) (w : World) : Calls Tryz.prog 58 #[.func (.func n) #[] #[]] w fun e w' => ∃ g, e = .returned (.func (.func 98) #[] #[.pointer (some ⟨g, 0, none⟩)]) ∧ w.heap.size ≤ g ∧ w'.heap[g]? = some (.cells #[.func (.func n) #[] #[]] 141 (0, 0)) ∧ Below w.heap.size w w' := by
  have h1 := blk_new w (.cells #[.func (.func n) #[] #[]] 141)
  go_enter Tryz.func58, Tryz.ntmps58
  go_wp2
  go_ret
  exact ⟨_, rfl, Nat.le_refl _, h1, bl1⟩
section
variable {ops : Array Oper} {rest : List Oper} {o : Oper} {a : Act} {Q : Exit → Act → World → Prop} {W : World}
theorem gate_ins {t : TypeId} {m k v : Operand} (_ho : o.op = .insert t m k v) (h : wpList Tryz.prog ops Q (o :: rest) a W) : wpList Tryz.prog ops Q (o :: rest) a W := h
theorem stIns {b clock : Nat} {es es' : Array MapEntry} {k : Int} {vv : Value} {m x v : Operand} (hB : W.heap[b]? = some (.map es clock))
    (ho : o.op = .insert 109 m x v := by rfl) (hgd : o.guard = none := by rfl) (hN : o.dst = none := by rfl) (hm : a.eval m = .map (some b) := by rfl) (hx : a.eval x = .int .i64 k := by rfl) (hv : a.eval v = vv := by rfl)
    (hk : Instr.findNow (.int .i64) (.int .i64 k) es.toList 0 = some none := by rfl) (he : es.push { key := .int .i64 k, val := vv, born := clock } = es' := by rfl)
    (h : ∀ w1, w1.heap[b]? = some (.map es' (clock + 1)) → W.grownBy w1 (some b) → wpList Tryz.prog ops Q rest a w1) : wpList Tryz.prog ops Q (o :: rest) a W := by
  subst he
  refine wpList_plain hgd fun K hK => ?_
  obtain ⟨W', hrun, h1, h2⟩ := mapIns (v := vv) hB hk
  unfold Oper.wp execOp
  simp only [ho, hm, hx, hv, Sem.run_bind, Sem.run_pure, Result.andThen_ok, hrun]
  show K (a.put o.dst undef) _
  rw [hN]
  exact hK _ _ (h _ h1 h2)
end
def kindsE (g1 g2 g3 g4 : Nat) : Array MapEntry := #[⟨.int .i64 1, .func (.func 98) #[] #[.pointer (some ⟨g1, 0, none⟩)], 0⟩, ⟨.int .i64 4, .func (.func 98) #[] #[.pointer (some ⟨g2, 0, none⟩)], 1⟩, ⟨.int .i64 5, .func (.func 98) #[] #[.pointer (some ⟨g3, 0, none⟩)], 2⟩, ⟨.int .i64 6, .func (.func 98) #[] #[.pointer (some ⟨g4, 0, none⟩)], 3⟩, ⟨.int .i64 2, .func (.func 67) #[] #[], 4⟩, ⟨.int .i64 3, .func (.func 69) #[] #[], 5⟩]
abbrev fnB (n : Nat) : Obj := .cells #[.func (.func n) #[] #[]] 141 (0, 0)
theorem kernel_kinds.calls (w : World) : Calls Tryz.prog 34 #[] w fun e w' => ∃ b g1 g2 g3 g4, e = .returned (.map (some b)) ∧ w'.heap[b]? = some (.map (kindsE g1 g2 g3 g4) 6) ∧ w'.heap[g1]? = some (fnB 59) ∧ w'.heap[g2]? = some (fnB 61) ∧ w'.heap[g3]? = some (fnB 63) ∧ w'.heap[g4]? = some (fnB 65) ∧ Below w.heap.size w w' := by
  have hmm := @run_makeMap Tryz.prog
  go_enter Tryz.func34, Tryz.ntmps34
  go_wp2_with fail
  have hM0 : (w.alloc (.map #[] 0)).heap[w.heap.size]? = some (.map #[] 0) := (MapKept.heap_alloc w _).1
  have hb0 := @bl1 w (.map #[] 0)
  have hs0 : (w.alloc (.map #[] 0)).heap.size = w.heap.size + 1 := alsz
  generalize w.alloc (.map #[] 0) = W0 at hM0 hb0 hs0 ⊢
  refine (kernel_on.calls 59 _).mono ?_; rintro _ w1 ⟨g1, rfl, hg1, hB1, hc1⟩
  have hM1a := blk_below hM0 hc1
  have hb1a := below_step hb0 hc1
  have hx1 := hc1.size
  have hl1 := (Array.getElem?_eq_some_iff.1 hB1).1
  go_wp2_with ((with_reducible refine gate_ins (t := 109) (m := .tmp 1) rfl ?_); refine stop_ ?_)
  refine ⟨?_⟩
  refine stIns hM1a (h := fun v1 hM1 hw1 => ?_)
  have hB1 := blk_grown hB1 hw1 (fun he => by have h2 := Option.some.inj he; (try dsimp only at h2); omega)
  have hb1 : Below w.heap.size w v1 := hb1a.trans ⟨hw1.os, hw1.tape, hw1.output, hw1.size, fun k hk => hw1.block k (by have := hb1a.size; omega) (fun he => by have h2 := Option.some.inj he; (try dsimp only at h2); omega)⟩
  have hy1 := hw1.size
  clear hw1 hc1
  go_wp2_with fail
  refine (kernel_on.calls 61 _).mono ?_; rintro _ w2 ⟨g2, rfl, hg2, hB2, hc2⟩
  have hM2a := blk_below hM1 hc2
  have hb2a := below_step hb1 hc2
  have hx2 := hc2.size
  have hl2 := (Array.getElem?_eq_some_iff.1 hB2).1
  have hB1 := blk_below hB1 hc2
  go_wp2_with ((with_reducible refine gate_ins (t := 109) (m := .tmp 1) rfl ?_); refine stop_ ?_)
  refine ⟨?_⟩
  refine stIns hM2a (h := fun v2 hM2 hw2 => ?_)
  have hB1 := blk_grown hB1 hw2 (fun he => by have h2 := Option.some.inj he; (try dsimp only at h2); omega)
  have hB2 := blk_grown hB2 hw2 (fun he => by have h2 := Option.some.inj he; (try dsimp only at h2); omega)
  have hb2 : Below w.heap.size w v2 := hb2a.trans ⟨hw2.os, hw2.tape, hw2.output, hw2.size, fun k hk => hw2.block k (by have := hb2a.size; omega) (fun he => by have h2 := Option.some.inj he; (try dsimp only at h2); omega)⟩
  have hy2 := hw2.size
  clear hw2 hc2
  go_wp2_with fail
  refine (kernel_on.calls 63 _).mono ?_; rintro _ w3 ⟨g3, rfl, hg3, hB3, hc3⟩
  have hM3a := blk_below hM2 hc3
  have hb3a := below_step hb2 hc3
  have hx3 := hc3.size
  have hl3 := (Array.getElem?_eq_some_iff.1 hB3).1
  have hB1 := blk_below hB1 hc3
  have hB2 := blk_below hB2 hc3
  go_wp2_with ((with_reducible refine gate_ins (t := 109) (m := .tmp 1) rfl ?_); refine stop_ ?_)
  refine ⟨?_⟩
  refine stIns hM3a (h := fun v3 hM3 hw3 => ?_)
  have hB1 := blk_grown hB1 hw3 (fun he => by have h2 := Option.some.inj he; (try dsimp only at h2); omega)
  have hB2 := blk_grown hB2 hw3 (fun he => by have h2 := Option.some.inj he; (try dsimp only at h2); omega)
  have hB3 := blk_grown hB3 hw3 (fun he => by have h2 := Option.some.inj he; (try dsimp only at h2); omega)
  have hb3 : Below w.heap.size w v3 := hb3a.trans ⟨hw3.os, hw3.tape, hw3.output, hw3.size, fun k hk => hw3.block k (by have := hb3a.size; omega) (fun he => by have h2 := Option.some.inj he; (try dsimp only at h2); omega)⟩
  have hy3 := hw3.size
  clear hw3 hc3
  go_wp2_with fail
  refine (kernel_on.calls 65 _).mono ?_; rintro _ w4 ⟨g4, rfl, hg4, hB4, hc4⟩
  have hM4a := blk_below hM3 hc4
  have hb4a := below_step hb3 hc4
  have hx4 := hc4.size
  have hl4 := (Array.getElem?_eq_some_iff.1 hB4).1
  have hB1 := blk_below hB1 hc4
  have hB2 := blk_below hB2 hc4
  have hB3 := blk_below hB3 hc4
  go_wp2_with ((with_reducible refine gate_ins (t := 109) (m := .tmp 1) rfl ?_); refine stop_ ?_)
  refine ⟨?_⟩
  refine stIns hM4a (h := fun v4 hM4 hw4 => ?_)
  have hB1 := blk_grown hB1 hw4 (fun he => by have h2 := Option.some.inj he; (try dsimp only at h2); omega)
  have hB2 := blk_grown hB2 hw4 (fun he => by have h2 := Option.some.inj he; (try dsimp only at h2); omega)
  have hB3 := blk_grown hB3 hw4 (fun he => by have h2 := Option.some.inj he; (try dsimp only at h2); omega)
  have hB4 := blk_grown hB4 hw4 (fun he => by have h2 := Option.some.inj he; (try dsimp only at h2); omega)
  have hb4 : Below w.heap.size w v4 := hb4a.trans ⟨hw4.os, hw4.tape, hw4.output, hw4.size, fun k hk => hw4.block k (by have := hb4a.size; omega) (fun he => by have h2 := Option.some.inj he; (try dsimp only at h2); omega)⟩
  have hy4 := hw4.size
  clear hw4 hc4
  go_wp2_with ((with_reducible refine gate_ins (t := 109) (m := .tmp 1) rfl ?_); refine stop_ ?_)
  refine ⟨?_⟩
  refine stIns hM4 (h := fun v5 hM5 hw5 => ?_)
  have hB1 := blk_grown hB1 hw5 (fun he => by have h2 := Option.some.inj he; (try dsimp only at h2); omega)
  have hB2 := blk_grown hB2 hw5 (fun he => by have h2 := Option.some.inj he; (try dsimp only at h2); omega)
  have hB3 := blk_grown hB3 hw5 (fun he => by have h2 := Option.some.inj he; (try dsimp only at h2); omega)
  have hB4 := blk_grown hB4 hw5 (fun he => by have h2 := Option.some.inj he; (try dsimp only at h2); omega)
  have hb5 : Below w.heap.size w v5 := hb4.trans ⟨hw5.os, hw5.tape, hw5.output, hw5.size, fun k hk => hw5.block k (by have := hb4.size; omega) (fun he => by have h2 := Option.some.inj he; (try dsimp only at h2); omega)⟩
  go_wp2_with ((with_reducible refine gate_ins (t := 109) (m := .tmp 1) rfl ?_); refine stop_ ?_)
  refine ⟨?_⟩
  refine stIns hM5 (h := fun v6 hM6 hw6 => ?_)
  have hB1 := blk_grown hB1 hw6 (fun he => by have h2 := Option.some.inj he; (try dsimp only at h2); omega)
  have hB2 := blk_grown hB2 hw6 (fun he => by have h2 := Option.some.inj he; (try dsimp only at h2); omega)
  have hB3 := blk_grown hB3 hw6 (fun he => by have h2 := Option.some.inj he; (try dsimp only at h2); omega)
  have hB4 := blk_grown hB4 hw6 (fun he => by have h2 := Option.some.inj he; (try dsimp only at h2); omega)
  have hb6 : Below w.heap.size w v6 := hb5.trans ⟨hw6.os, hw6.tape, hw6.output, hw6.size, fun k hk => hw6.block k (by have := hb5.size; omega) (fun he => by have h2 := Option.some.inj he; (try dsimp only at h2); omega)⟩
  go_wp2
  go_ret
  exact ⟨_, g1, g2, g3, g4, rfl, hM6, hB1, hB2, hB3, hB4, hb6⟩
def kernel_Do.T3 : Bool × List (List Nat × List Nat) := (true, [([], []), ([], []), ([1], [1]), ([0, 2], [0, 2]), ([3, 0, 0, 1, 2, 3], [3])])
def kernel_Do.B3 : List Nat := [0, 0, 2, 7, 15]
theorem kernel_Do.tab3 : rtab .any (opsOf Tryz.f16 3) = kernel_Do.T3 := by kernel_rfl
theorem kernel_Do.bits3 : waitsOk kernel_Do.T3.2 kernel_Do.B3 = true := by kernel_rfl
def doK (s : S66) (c : S46) : S66 × Int × Int :=
  if 0 ≤ c.f0 ∧ c.f0 < s.f3.length then
    (if c.f1 = 1 then onS doRel s c else if c.f1 = 4 then onS doAdd s c else if c.f1 = 5 then onS doDrop s c else if c.f1 = 6 then onS doChg s c else if c.f1 = 2 then sendS s c else if c.f1 = 3 then readS s c else (s, 0, 4))
  else (s, 0, 4)
abbrev onV (g : Nat) : Value := .func (.func 98) #[] #[.pointer (some ⟨g, 0, none⟩)]
def kindR (k : Int) (g1 g2 g3 g4 : Nat) : Option (Nat × Value) := if k = 1 then some (0, onV g1) else if k = 4 then some (1, onV g2) else if k = 5 then some (2, onV g3) else if k = 6 then some (3, onV g4) else if k = 2 then some (4, .func (.func 67) #[] #[]) else if k = 3 then some (5, .func (.func 69) #[] #[]) else none
def kindV (k : Int) (g1 g2 g3 g4 : Nat) : Value := ((kindR k g1 g2 g3 g4).map (·.2)).getD .nilFunc
theorem kindR_find (k : Int) (g1 g2 g3 g4 : Nat) : Instr.findNow (.int .i64) (.int .i64 k) (kindsE g1 g2 g3 g4).toList 0 = some (kindR k g1 g2 g3 g4) := by
  unfold kindR
  split
  · subst_vars; rfl
  split
  · subst_vars; rfl
  split
  · subst_vars; rfl
  split
  · subst_vars; rfl
  split
  · subst_vars; rfl
  split
  · subst_vars; rfl
  · rename_i h1 h2 h3 h4 h5 h6
    have e1 : (k == 1) = false := by simpa using h1
    have e2 : (k == 4) = false := by simpa using h2
    have e3 : (k == 5) = false := by simpa using h3
    have e4 : (k == 6) = false := by simpa using h4
    have e5 : (k == 2) = false := by simpa using h5
    have e6 : (k == 3) = false := by simpa using h6
    simp only [kindsE, Instr.findNow, Instr.sameNow, if_true, e1, e2, e3, e4, e5, e6]
theorem eqF (f : Fn) (a c : Array Value) (W : World) : (binOp .eql 71 (.func f a c) .nilFunc).run Tryz.prog W = .ok (.bool false) W := by
  have hu71 := Tryz.underlying71
  unfold binOp
  go_simp
  rw [Op.equal, show Op.maxDepth = (Op.maxDepth - 1) + 1 from rfl, Op.equalIn]; simp [go_sem, run_underlying hu71]
theorem eqN (W : World) : (binOp .eql 71 .nilFunc .nilFunc).run Tryz.prog W = .ok (.bool true) W := by
  have hu71 := Tryz.underlying71
  unfold binOp
  go_simp
  rw [Op.equal, show Op.maxDepth = (Op.maxDepth - 1) + 1 from rfl, Op.equalIn]; simp [go_sem, run_underlying hu71]
theorem kernel_Do.calls (s : S66) (cs : List Value) (c : S46) (cc : List Value) (ok : Nat → Prop) (w : World) (h : Kd.FK k66 w ok s cs) (hc : Kd.FK k46 w ok c cc) (hR : kerR s = true) :
    Calls Tryz.prog 16 #[.agg cs.toArray, .agg cc.toArray] w fun e w' => ∃ cs', e = .returned (.tuple #[.agg cs'.toArray, .int .i64 (doK s c).2.1, .int .i64 (doK s c).2.2]) ∧ Kd.FK k66 w' (nw ok w) (doK s c).1 cs' ∧ Below w.heap.size w w' := by
  have hu := Tryz.underlying66
  have hu2 := Tryz.underlying46
  have H := Aside0.mk (Kd.FK_bound h)
  have HC := Aside0.mk (Kd.FK_bound hc)
  obtain ⟨A1, c1, A2, c2, A3, c3, A4, c4, rfl, -, -, -, -, -, -, -, -⟩ := k66_openF (Kd.FK_bound h)
  obtain ⟨A7, c7, rfl, -, -⟩ := k46_openF (Kd.FK_bound hc)
  have HR := Aside0.mk hR
  have hl4 : s.f3.length ≤ 4 := (kerR_iff.1 hR).2.2.2.1
  clear h hc hR
  have hb := @bl3 w (.cells #[.int .i64 s.f0, .slice A1 s.f1.length c1, .slice A2 s.f2.length c2, .slice A3 s.f3.length c3, .slice A4 s.f4.length c4, .int .i64 s.f5] 66) (.cells #[.int .i64 c.f0, .int .i64 c.f1, .int .i64 c.f2, .int .i64 c.f3, .int .i64 c.f4.f0, .int .i64 c.f4.f1, .int .i64 c.f4.f2, .slice A7 c.f4.f3.length c7] 46) (.cells #[.int .i64 0, .slice none 0 0, .slice none 0 0, .slice none 0 0, .slice none 0 0, .int .i64 0] 66)
  have hz : (((w.alloc (.cells #[.int .i64 s.f0, .slice A1 s.f1.length c1, .slice A2 s.f2.length c2, .slice A3 s.f3.length c3, .slice A4 s.f4.length c4, .int .i64 s.f5] 66)).alloc (.cells #[.int .i64 c.f0, .int .i64 c.f1, .int .i64 c.f2, .int .i64 c.f3, .int .i64 c.f4.f0, .int .i64 c.f4.f1, .int .i64 c.f4.f2, .slice A7 c.f4.f3.length c7] 46)).alloc (.cells #[.int .i64 0, .slice none 0 0, .slice none 0 0, .slice none 0 0, .slice none 0 0, .int .i64 0] 66)).heap.size = w.heap.size + 3 := by rw [alsz, alsz, alsz]
  have hX := blk_al (blk_al (blk_new w (.cells #[.int .i64 s.f0, .slice A1 s.f1.length c1, .slice A2 s.f2.length c2, .slice A3 s.f3.length c3, .slice A4 s.f4.length c4, .int .i64 s.f5] 66)) (.cells #[.int .i64 c.f0, .int .i64 c.f1, .int .i64 c.f2, .int .i64 c.f3, .int .i64 c.f4.f0, .int .i64 c.f4.f1, .int .i64 c.f4.f2, .slice A7 c.f4.f3.length c7] 46)) (.cells #[.int .i64 0, .slice none 0 0, .slice none 0 0, .slice none 0 0, .slice none 0 0, .int .i64 0] 66)
  have hC := blk_al (blk_new (w.alloc (.cells #[.int .i64 s.f0, .slice A1 s.f1.length c1, .slice A2 s.f2.length c2, .slice A3 s.f3.length c3, .slice A4 s.f4.length c4, .int .i64 s.f5] 66)) (.cells #[.int .i64 c.f0, .int .i64 c.f1, .int .i64 c.f2, .int .i64 c.f3, .int .i64 c.f4.f0, .int .i64 c.f4.f1, .int .i64 c.f4.f2, .slice A7 c.f4.f3.length c7] 46)) (.cells #[.int .i64 0, .slice none 0 0, .slice none 0 0, .slice none 0 0, .slice none 0 0, .int .i64 0] 66)
  have hRb := blk_new ((w.alloc (.cells #[.int .i64 s.f0, .slice A1 s.f1.length c1, .slice A2 s.f2.length c2, .slice A3 s.f3.length c3, .slice A4 s.f4.length c4, .int .i64 s.f5] 66)).alloc (.cells #[.int .i64 c.f0, .int .i64 c.f1, .int .i64 c.f2, .int .i64 c.f3, .int .i64 c.f4.f0, .int .i64 c.f4.f1, .int .i64 c.f4.f2, .slice A7 c.f4.f3.length c7] 46)) (.cells #[.int .i64 0, .slice none 0 0, .slice none 0 0, .slice none 0 0, .slice none 0 0, .int .i64 0] 66)
  rw [show (w.alloc (.cells #[.int .i64 s.f0, .slice A1 s.f1.length c1, .slice A2 s.f2.length c2, .slice A3 s.f3.length c3, .slice A4 s.f4.length c4, .int .i64 s.f5] 66)).heap.size = w.heap.size + 1 from alsz] at hC
  rw [show ((w.alloc (.cells #[.int .i64 s.f0, .slice A1 s.f1.length c1, .slice A2 s.f2.length c2, .slice A3 s.f3.length c3, .slice A4 s.f4.length c4, .int .i64 s.f5] 66)).alloc (.cells #[.int .i64 c.f0, .int .i64 c.f1, .int .i64 c.f2, .int .i64 c.f3, .int .i64 c.f4.f0, .int .i64 c.f4.f1, .int .i64 c.f4.f2, .slice A7 c.f4.f3.length c7] 46)).heap.size = w.heap.size + 2 by rw [alsz, alsz]] at hRb
  go_enter Tryz.func16, Tryz.ntmps16
  go_wp2_with fail
  refine (kernel_Right.calls s [.int .i64 s.f0, .slice A1 s.f1.length c1, .slice A2 s.f2.length c2, .slice A3 s.f3.length c3, .slice A4 s.f4.length c4, .int .i64 s.f5] (fun k => ok k ∧ k < w.heap.size) _ (Kd.FK_below H.out hb) HR.out).mono ?_; rintro _ w2 ⟨rfl, hb2⟩
  have hX2 := blk_below hX hb2
  have hC2 := blk_below hC hb2
  have hR2 := blk_below hRb hb2
  have hbA := below_step hb hb2
  have hl2 := (Array.getElem?_eq_some_iff.1 hR2).1
  clear hX hC hRb hb hb2 hz
  obtain ⟨x0, x1, x2, x3, x4, x5⟩ := bx6 hX2
  obtain ⟨y0, y1, y2, y3, y4, y5, y6, y7⟩ := bx8 hC2
  go_wp2_with fail
  refine st_ 5 (fun w' => w'.cell? (⟨w.heap.size + 1, 1, none⟩) = some (.int .i64 c.f1) ∧ Below w.heap.size w w' ∧ w'.heap[w.heap.size]? = some (.cells #[.int .i64 s.f0, .slice A1 s.f1.length c1, .slice A2 s.f2.length c2, .slice A3 s.f3.length c3, .slice A4 s.f4.length c4, .int .i64 s.f5] 66 (0, 0)) ∧ w'.heap[w.heap.size + 1]? = some (.cells #[.int .i64 c.f0, .int .i64 c.f1, .int .i64 c.f2, .int .i64 c.f3, .int .i64 c.f4.f0, .int .i64 c.f4.f1, .int .i64 c.f4.f2, .slice A7 c.f4.f3.length c7] 46 (0, 0)) ∧ w'.heap[w.heap.size + 2]? = some (.cells #[.int .i64 0, .slice none 0 0, .slice none 0 0, .slice none 0 0, .slice none 0 0, .int .i64 0] 66 (0, 0))) [] kernel_Do.tab3 kernel_Do.bits3 ⟨y1, below_drew1 hbA, hX2, hC2, hR2⟩ (h := fun HT HW hHeld => ?_)
  repeat (first | refine pn_ HT (h := ?_) | refine tn_ HT HW hHeld (h := ?_) | refine zn_ HT (h := ?_))
  refine on_ HT (h := fun K hK => ?_)
  refine cn_ (Calls.mono (kernel_kinds.calls _) (fun e w' ⟨b, g1, g2, g3, g4, he, h⟩ => ⟨_, he, b, g1, g2, g3, g4, rfl, h⟩)) (R := fun v w' => ∃ b g1 g2 g3 g4, v = .map (some b) ∧ w'.heap[b]? = some (.map (kindsE g1 g2 g3 g4) 6) ∧ w'.heap[g1]? = some (fnB 59) ∧ w'.heap[g2]? = some (fnB 61) ∧ w'.heap[g3]? = some (fnB 63) ∧ w'.heap[g4]? = some (fnB 65) ∧ Below w2.drew.heap.size w2.drew w') (h := fun v3' w3 hv3 => ?_)
  obtain ⟨b, g1, g2, g3, g4, rfl, hM, hg1, hg2, hg3, hg4, hb3⟩ := hv3
  refine hK.out _ _ ⟨be_cell hb3 (hHeld.1), below_step (hHeld.2.1) hb3, blk_below (hHeld.2.2.1) hb3, blk_below (hHeld.2.2.2.1) hb3, blk_below (hHeld.2.2.2.2) hb3⟩ (fun hHeld => ?_)
  refine nm_ (h := ?_)
  refine on_ HT (h := fun K hK => ?_)
  refine ev_ (w1 := w3) (v := kindV c.f1 g1 g2 g3 g4) (by have hl := mapLook hM _ (kindR_find c.f1 g1 g2 g3 g4); go_simp; rfl) ?_
  refine hK.out _ _ hHeld (fun hHeld => ?_)
  refine nm_ (h := ?_)
  repeat (first | refine pn_ HT (h := ?_) | refine tn_ HT HW hHeld (h := ?_) | refine zn_ HT (h := ?_))
  refine dn_ HT (h := ?_)
  obtain ⟨-, hbB, hX3, hC3, hR3⟩ := hHeld
  have hl3 := (Array.getElem?_eq_some_iff.1 hR3).1
  have HX3 := Aside0.mk (Kd.FK_below H.out hbB)
  have HC3 := Aside0.mk (Kd.FK_below HC.out hbB)
  have heqF := eqF
  have heqN := eqN
  clear HT HW hK K hX2 hC2 hR2 hbA hl2 x0 x1 x2 x3 x4 x5 y0 y1 y2 y3 y4 y5 y6 y7
  obtain ⟨x0, x1, x2, x3, x4, x5⟩ := bx6 hX3
  obtain ⟨y0, y1, y2, y3, y4, y5, y6, y7⟩ := bx8 hC3
  by_cases k1 : c.f1 = 1
  · have hkv : kindV c.f1 g1 g2 g3 g4 = onV g1 := by unfold kindV kindR; rw [if_pos k1]; rfl
    rw [hkv]
    have K1 := Aside0.mk k1
    clear hkv k1
    by_cases ca : 0 ≤ c.f0
    · by_cases cb : c.f0 < s.f3.length
      · have HV := Aside0.mk (show doK s c = onS doRel s c from by unfold doK; rw [if_pos ⟨ca, cb⟩, if_pos K1.out])
        go_wp2_with fail
        refine (on1.calls 59 doRel kinds1.calls (enters_of Tryz.func59 (by kernel_rfl) rfl) g1 s [.int .i64 s.f0, .slice A1 s.f1.length c1, .slice A2 s.f2.length c2, .slice A3 s.f3.length c3, .slice A4 s.f4.length c4, .int .i64 s.f5] c [.int .i64 c.f0, .int .i64 c.f1, .int .i64 c.f2, .int .i64 c.f3, .int .i64 c.f4.f0, .int .i64 c.f4.f1, .int .i64 c.f4.f2, .slice A7 c.f4.f3.length c7] (fun k => ok k ∧ k < w.heap.size) w3 hg1 HX3.out HC3.out HR.out ca cb).mono ?_; rintro _ w4 ⟨cs4, rfl, hF4, hb4⟩
        have hR4 := blk_below hR3 hb4
        have hb5 := below_step hbB hb4
        have hF4 := Kd.FK_mono (ok' := fun k => (ok k ∧ k < w.heap.size) ∨ w.heap.size + 3 ≤ k) hF4 (fun k hk => hk.elim Or.inl (fun h => Or.inr (by omega)))
        generalize hr : onS doRel s c = r at hF4 ⊢
        have HR2 := Aside0.mk hr
        have HF4 := Aside0.mk hF4
        obtain ⟨E1, j1, E2, j2, E3, j3, E4, j4, rfl, -, -, -, -, -, -, -, -⟩ := k66_openF hF4
        clear hF4 hr x0 x1 x2 x3 x4 x5 y0 y1 y2 y3 y4 y5 y6 y7
        go_wp2_with ((with_reducible refine gate_store (t := 66) (p := 4) (v := .tmp 36) rfl ?_); refine stop_ ?_)
        refine ⟨?_⟩
        refine stB (w0 := w) (base := w.heap.size) (seg := [.int .i64 r.1.f0, .slice E1 r.1.f1.length j1, .slice E2 r.1.f2.length j2, .slice E3 r.1.f3.length j3, .slice E4 r.1.f4.length j4, .int .i64 r.1.f5]) (cs' := [.int .i64 r.1.f0, .slice E1 r.1.f1.length j1, .slice E2 r.1.f2.length j2, .slice E3 r.1.f3.length j3, .slice E4 r.1.f4.length j4, .int .i64 r.1.f5]) hR4 hb5 (by omega) (h := fun w9 hR9 hb9 hg9 => ?_)
        have HF9 := Aside0.mk (Kd.FK_mono (ok' := nw ok w) (Kd.FK_grown HF4.out hg9 (fun k hk he => by have h2 := Option.some.inj he; (try dsimp only at h2); omega)) (fun k hk => hk.elim (fun h => Or.inl h.1) (fun h => Or.inr (by omega))))
        go_wp2
        refine bodyPost_ret (results_list (rs := [.cell 4 66, .tmp 5, .tmp 6]) rfl (by simp) (.cell _ 66 _ (0, 0) _ rfl hR9 Tryz.underlying66 rfl (by kernel_rfl) (.tmp (.tmp .nil)))) rfl ?_
        rw [HV.out, HR2.out]
        exact ⟨_, rfl, HF9.out, hb9⟩
      · have HV := Aside0.mk (show doK s c = (s, 0, 4) from by unfold doK; rw [if_neg (fun h => cb h.2)])
        go_wp2_with ((with_reducible refine gate_store (t := 66) (p := 4) (v := .tmp 31) rfl ?_); refine stop_ ?_)
        refine ⟨?_⟩
        refine stB (w0 := w) (base := w.heap.size) (seg := [.int .i64 s.f0, .slice A1 s.f1.length c1, .slice A2 s.f2.length c2, .slice A3 s.f3.length c3, .slice A4 s.f4.length c4, .int .i64 s.f5]) (cs' := [.int .i64 s.f0, .slice A1 s.f1.length c1, .slice A2 s.f2.length c2, .slice A3 s.f3.length c3, .slice A4 s.f4.length c4, .int .i64 s.f5]) hR3 hbB (by omega) (h := fun w9 hR9 hb9 hg9 => ?_)
        go_wp2
        refine bodyPost_ret (results_list (rs := [.cell 4 66, .tmp 5, .tmp 6]) rfl (by simp) (.cell _ 66 _ (0, 0) _ rfl hR9 Tryz.underlying66 rfl (by kernel_rfl) (.tmp (.tmp .nil)))) rfl ?_
        rw [HV.out]
        exact ⟨_, rfl, Kd.FK_mono (Kd.FK_below H.out hb9) (fun k hk => Or.inl hk.1), hb9⟩
    · have HV := Aside0.mk (show doK s c = (s, 0, 4) from by unfold doK; rw [if_neg (fun h => ca h.1)])
      go_wp2_with ((with_reducible refine gate_store (t := 66) (p := 4) (v := .tmp 31) rfl ?_); refine stop_ ?_)
      refine ⟨?_⟩
      refine stB (w0 := w) (base := w.heap.size) (seg := [.int .i64 s.f0, .slice A1 s.f1.length c1, .slice A2 s.f2.length c2, .slice A3 s.f3.length c3, .slice A4 s.f4.length c4, .int .i64 s.f5]) (cs' := [.int .i64 s.f0, .slice A1 s.f1.length c1, .slice A2 s.f2.length c2, .slice A3 s.f3.length c3, .slice A4 s.f4.length c4, .int .i64 s.f5]) hR3 hbB (by omega) (h := fun w9 hR9 hb9 hg9 => ?_)
      go_wp2
      refine bodyPost_ret (results_list (rs := [.cell 4 66, .tmp 5, .tmp 6]) rfl (by simp) (.cell _ 66 _ (0, 0) _ rfl hR9 Tryz.underlying66 rfl (by kernel_rfl) (.tmp (.tmp .nil)))) rfl ?_
      rw [HV.out]
      exact ⟨_, rfl, Kd.FK_mono (Kd.FK_below H.out hb9) (fun k hk => Or.inl hk.1), hb9⟩
  have K1 := Aside0.mk k1
  clear k1
  by_cases k4 : c.f1 = 4
  · have hkv : kindV c.f1 g1 g2 g3 g4 = onV g2 := by unfold kindV kindR; rw [if_neg K1.out, if_pos k4]; rfl
    rw [hkv]
    have K4 := Aside0.mk k4
    clear hkv k4
    by_cases ca : 0 ≤ c.f0
    · by_cases cb : c.f0 < s.f3.length
      · have HV := Aside0.mk (show doK s c = onS doAdd s c from by unfold doK; rw [if_pos ⟨ca, cb⟩, if_neg K1.out, if_pos K4.out])
        go_wp2_with fail
        refine (on1.calls 61 doAdd kinds2.calls (enters_of Tryz.func61 (by kernel_rfl) rfl) g2 s [.int .i64 s.f0, .slice A1 s.f1.length c1, .slice A2 s.f2.length c2, .slice A3 s.f3.length c3, .slice A4 s.f4.length c4, .int .i64 s.f5] c [.int .i64 c.f0, .int .i64 c.f1, .int .i64 c.f2, .int .i64 c.f3, .int .i64 c.f4.f0, .int .i64 c.f4.f1, .int .i64 c.f4.f2, .slice A7 c.f4.f3.length c7] (fun k => ok k ∧ k < w.heap.size) w3 hg2 HX3.out HC3.out HR.out ca cb).mono ?_; rintro _ w4 ⟨cs4, rfl, hF4, hb4⟩
        have hR4 := blk_below hR3 hb4
        have hb5 := below_step hbB hb4
        have hF4 := Kd.FK_mono (ok' := fun k => (ok k ∧ k < w.heap.size) ∨ w.heap.size + 3 ≤ k) hF4 (fun k hk => hk.elim Or.inl (fun h => Or.inr (by omega)))
        generalize hr : onS doAdd s c = r at hF4 ⊢
        have HR2 := Aside0.mk hr
        have HF4 := Aside0.mk hF4
        obtain ⟨E1, j1, E2, j2, E3, j3, E4, j4, rfl, -, -, -, -, -, -, -, -⟩ := k66_openF hF4
        clear hF4 hr x0 x1 x2 x3 x4 x5 y0 y1 y2 y3 y4 y5 y6 y7
        go_wp2_with ((with_reducible refine gate_store (t := 66) (p := 4) (v := .tmp 36) rfl ?_); refine stop_ ?_)
        refine ⟨?_⟩
        refine stB (w0 := w) (base := w.heap.size) (seg := [.int .i64 r.1.f0, .slice E1 r.1.f1.length j1, .slice E2 r.1.f2.length j2, .slice E3 r.1.f3.length j3, .slice E4 r.1.f4.length j4, .int .i64 r.1.f5]) (cs' := [.int .i64 r.1.f0, .slice E1 r.1.f1.length j1, .slice E2 r.1.f2.length j2, .slice E3 r.1.f3.length j3, .slice E4 r.1.f4.length j4, .int .i64 r.1.f5]) hR4 hb5 (by omega) (h := fun w9 hR9 hb9 hg9 => ?_)
        have HF9 := Aside0.mk (Kd.FK_mono (ok' := nw ok w) (Kd.FK_grown HF4.out hg9 (fun k hk he => by have h2 := Option.some.inj he; (try dsimp only at h2); omega)) (fun k hk => hk.elim (fun h => Or.inl h.1) (fun h => Or.inr (by omega))))
        go_wp2
        refine bodyPost_ret (results_list (rs := [.cell 4 66, .tmp 5, .tmp 6]) rfl (by simp) (.cell _ 66 _ (0, 0) _ rfl hR9 Tryz.underlying66 rfl (by kernel_rfl) (.tmp (.tmp .nil)))) rfl ?_
        rw [HV.out, HR2.out]
        exact ⟨_, rfl, HF9.out, hb9⟩
      · have HV := Aside0.mk (show doK s c = (s, 0, 4) from by unfold doK; rw [if_neg (fun h => cb h.2)])
        go_wp2_with ((with_reducible refine gate_store (t := 66) (p := 4) (v := .tmp 31) rfl ?_); refine stop_ ?_)
        refine ⟨?_⟩
        refine stB (w0 := w) (base := w.heap.size) (seg := [.int .i64 s.f0, .slice A1 s.f1.length c1, .slice A2 s.f2.length c2, .slice A3 s.f3.length c3, .slice A4 s.f4.length c4, .int .i64 s.f5]) (cs' := [.int .i64 s.f0, .slice A1 s.f1.length c1, .slice A2 s.f2.length c2, .slice A3 s.f3.length c3, .slice A4 s.f4.length c4, .int .i64 s.f5]) hR3 hbB (by omega) (h := fun w9 hR9 hb9 hg9 => ?_)
        go_wp2
        refine bodyPost_ret (results_list (rs := [.cell 4 66, .tmp 5, .tmp 6]) rfl (by simp) (.cell _ 66 _ (0, 0) _ rfl hR9 Tryz.underlying66 rfl (by kernel_rfl) (.tmp (.tmp .nil)))) rfl ?_
        rw [HV.out]
        exact ⟨_, rfl, Kd.FK_mono (Kd.FK_below H.out hb9) (fun k hk => Or.inl hk.1), hb9⟩
    · have HV := Aside0.mk (show doK s c = (s, 0, 4) from by unfold doK; rw [if_neg (fun h => ca h.1)])
      go_wp2_with ((with_reducible refine gate_store (t := 66) (p := 4) (v := .tmp 31) rfl ?_); refine stop_ ?_)
      refine ⟨?_⟩
      refine stB (w0 := w) (base := w.heap.size) (seg := [.int .i64 s.f0, .slice A1 s.f1.length c1, .slice A2 s.f2.length c2, .slice A3 s.f3.length c3, .slice A4 s.f4.length c4, .int .i64 s.f5]) (cs' := [.int .i64 s.f0, .slice A1 s.f1.length c1, .slice A2 s.f2.length c2, .slice A3 s.f3.length c3, .slice A4 s.f4.length c4, .int .i64 s.f5]) hR3 hbB (by omega) (h := fun w9 hR9 hb9 hg9 => ?_)
      go_wp2
      refine bodyPost_ret (results_list (rs := [.cell 4 66, .tmp 5, .tmp 6]) rfl (by simp) (.cell _ 66 _ (0, 0) _ rfl hR9 Tryz.underlying66 rfl (by kernel_rfl) (.tmp (.tmp .nil)))) rfl ?_
      rw [HV.out]
      exact ⟨_, rfl, Kd.FK_mono (Kd.FK_below H.out hb9) (fun k hk => Or.inl hk.1), hb9⟩
  have K4 := Aside0.mk k4
  clear k4
  by_cases k5 : c.f1 = 5
  · have hkv : kindV c.f1 g1 g2 g3 g4 = onV g3 := by unfold kindV kindR; rw [if_neg K1.out, if_neg K4.out, if_pos k5]; rfl
    rw [hkv]
    have K5 := Aside0.mk k5
    clear hkv k5
    by_cases ca : 0 ≤ c.f0
    · by_cases cb : c.f0 < s.f3.length
      · have HV := Aside0.mk (show doK s c = onS doDrop s c from by unfold doK; rw [if_pos ⟨ca, cb⟩, if_neg K1.out, if_neg K4.out, if_pos K5.out])
        go_wp2_with fail
        refine (on1.calls 63 doDrop kinds3.calls (enters_of Tryz.func63 (by kernel_rfl) rfl) g3 s [.int .i64 s.f0, .slice A1 s.f1.length c1, .slice A2 s.f2.length c2, .slice A3 s.f3.length c3, .slice A4 s.f4.length c4, .int .i64 s.f5] c [.int .i64 c.f0, .int .i64 c.f1, .int .i64 c.f2, .int .i64 c.f3, .int .i64 c.f4.f0, .int .i64 c.f4.f1, .int .i64 c.f4.f2, .slice A7 c.f4.f3.length c7] (fun k => ok k ∧ k < w.heap.size) w3 hg3 HX3.out HC3.out HR.out ca cb).mono ?_; rintro _ w4 ⟨cs4, rfl, hF4, hb4⟩
        have hR4 := blk_below hR3 hb4
        have hb5 := below_step hbB hb4
        have hF4 := Kd.FK_mono (ok' := fun k => (ok k ∧ k < w.heap.size) ∨ w.heap.size + 3 ≤ k) hF4 (fun k hk => hk.elim Or.inl (fun h => Or.inr (by omega)))
        generalize hr : onS doDrop s c = r at hF4 ⊢
        have HR2 := Aside0.mk hr
        have HF4 := Aside0.mk hF4
        obtain ⟨E1, j1, E2, j2, E3, j3, E4, j4, rfl, -, -, -, -, -, -, -, -⟩ := k66_openF hF4
        clear hF4 hr x0 x1 x2 x3 x4 x5 y0 y1 y2 y3 y4 y5 y6 y7
        go_wp2_with ((with_reducible refine gate_store (t := 66) (p := 4) (v := .tmp 36) rfl ?_); refine stop_ ?_)
        refine ⟨?_⟩
        refine stB (w0 := w) (base := w.heap.size) (seg := [.int .i64 r.1.f0, .slice E1 r.1.f1.length j1, .slice E2 r.1.f2.length j2, .slice E3 r.1.f3.length j3, .slice E4 r.1.f4.length j4, .int .i64 r.1.f5]) (cs' := [.int .i64 r.1.f0, .slice E1 r.1.f1.length j1, .slice E2 r.1.f2.length j2, .slice E3 r.1.f3.length j3, .slice E4 r.1.f4.length j4, .int .i64 r.1.f5]) hR4 hb5 (by omega) (h := fun w9 hR9 hb9 hg9 => ?_)
        have HF9 := Aside0.mk (Kd.FK_mono (ok' := nw ok w) (Kd.FK_grown HF4.out hg9 (fun k hk he => by have h2 := Option.some.inj he; (try dsimp only at h2); omega)) (fun k hk => hk.elim (fun h => Or.inl h.1) (fun h => Or.inr (by omega))))
        go_wp2
        refine bodyPost_ret (results_list (rs := [.cell 4 66, .tmp 5, .tmp 6]) rfl (by simp) (.cell _ 66 _ (0, 0) _ rfl hR9 Tryz.underlying66 rfl (by kernel_rfl) (.tmp (.tmp .nil)))) rfl ?_
        rw [HV.out, HR2.out]
        exact ⟨_, rfl, HF9.out, hb9⟩
      · have HV := Aside0.mk (show doK s c = (s, 0, 4) from by unfold doK; rw [if_neg (fun h => cb h.2)])
        go_wp2_with ((with_reducible refine gate_store (t := 66) (p := 4) (v := .tmp 31) rfl ?_); refine stop_ ?_)
        refine ⟨?_⟩
        refine stB (w0 := w) (base := w.heap.size) (seg := [.int .i64 s.f0, .slice A1 s.f1.length c1, .slice A2 s.f2.length c2, .slice A3 s.f3.length c3, .slice A4 s.f4.length c4, .int .i64 s.f5]) (cs' := [.int .i64 s.f0, .slice A1 s.f1.length c1, .slice A2 s.f2.length c2, .slice A3 s.f3.length c3, .slice A4 s.f4.length c4, .int .i64 s.f5]) hR3 hbB (by omega) (h := fun w9 hR9 hb9 hg9 => ?_)
        go_wp2
        refine bodyPost_ret (results_list (rs := [.cell 4 66, .tmp 5, .tmp 6]) rfl (by simp) (.cell _ 66 _ (0, 0) _ rfl hR9 Tryz.underlying66 rfl (by kernel_rfl) (.tmp (.tmp .nil)))) rfl ?_
        rw [HV.out]
        exact ⟨_, rfl, Kd.FK_mono (Kd.FK_below H.out hb9) (fun k hk => Or.inl hk.1), hb9⟩
    · have HV := Aside0.mk (show doK s c = (s, 0, 4) from by unfold doK; rw [if_neg (fun h => ca h.1)])
      go_wp2_with ((with_reducible refine gate_store (t := 66) (p := 4) (v := .tmp 31) rfl ?_); refine stop_ ?_)
      refine ⟨?_⟩
      refine stB (w0 := w) (base := w.heap.size) (seg := [.int .i64 s.f0, .slice A1 s.f1.length c1, .slice A2 s.f2.length c2, .slice A3 s.f3.length c3, .slice A4 s.f4.length c4, .int .i64 s.f5]) (cs' := [.int .i64 s.f0, .slice A1 s.f1.length c1, .slice A2 s.f2.length c2, .slice A3 s.f3.length c3, .slice A4 s.f4.length c4, .int .i64 s.f5]) hR3 hbB (by omega) (h := fun w9 hR9 hb9 hg9 => ?_)
      go_wp2
      refine bodyPost_ret (results_list (rs := [.cell 4 66, .tmp 5, .tmp 6]) rfl (by simp) (.cell _ 66 _ (0, 0) _ rfl hR9 Tryz.underlying66 rfl (by kernel_rfl) (.tmp (.tmp .nil)))) rfl ?_
      rw [HV.out]
      exact ⟨_, rfl, Kd.FK_mono (Kd.FK_below H.out hb9) (fun k hk => Or.inl hk.1), hb9⟩
  have K5 := Aside0.mk k5
  clear k5
  by_cases k6 : c.f1 = 6
  · have hkv : kindV c.f1 g1 g2 g3 g4 = onV g4 := by unfold kindV kindR; rw [if_neg K1.out, if_neg K4.out, if_neg K5.out, if_pos k6]; rfl
    rw [hkv]
    have K6 := Aside0.mk k6
    clear hkv k6
    by_cases ca : 0 ≤ c.f0
    · by_cases cb : c.f0 < s.f3.length
      · have HV := Aside0.mk (show doK s c = onS doChg s c from by unfold doK; rw [if_pos ⟨ca, cb⟩, if_neg K1.out, if_neg K4.out, if_neg K5.out, if_pos K6.out])
        go_wp2_with fail
        refine (on1.calls 65 doChg kinds4.calls (enters_of Tryz.func65 (by kernel_rfl) rfl) g4 s [.int .i64 s.f0, .slice A1 s.f1.length c1, .slice A2 s.f2.length c2, .slice A3 s.f3.length c3, .slice A4 s.f4.length c4, .int .i64 s.f5] c [.int .i64 c.f0, .int .i64 c.f1, .int .i64 c.f2, .int .i64 c.f3, .int .i64 c.f4.f0, .int .i64 c.f4.f1, .int .i64 c.f4.f2, .slice A7 c.f4.f3.length c7] (fun k => ok k ∧ k < w.heap.size) w3 hg4 HX3.out HC3.out HR.out ca cb).mono ?_; rintro _ w4 ⟨cs4, rfl, hF4, hb4⟩
        have hR4 := blk_below hR3 hb4
        have hb5 := below_step hbB hb4
        have hF4 := Kd.FK_mono (ok' := fun k => (ok k ∧ k < w.heap.size) ∨ w.heap.size + 3 ≤ k) hF4 (fun k hk => hk.elim Or.inl (fun h => Or.inr (by omega)))
        generalize hr : onS doChg s c = r at hF4 ⊢
        have HR2 := Aside0.mk hr
        have HF4 := Aside0.mk hF4
        obtain ⟨E1, j1, E2, j2, E3, j3, E4, j4, rfl, -, -, -, -, -, -, -, -⟩ := k66_openF hF4
        clear hF4 hr x0 x1 x2 x3 x4 x5 y0 y1 y2 y3 y4 y5 y6 y7
        go_wp2_with ((with_reducible refine gate_store (t := 66) (p := 4) (v := .tmp 36) rfl ?_); refine stop_ ?_)
        refine ⟨?_⟩
        refine stB (w0 := w) (base := w.heap.size) (seg := [.int .i64 r.1.f0, .slice E1 r.1.f1.length j1, .slice E2 r.1.f2.length j2, .slice E3 r.1.f3.length j3, .slice E4 r.1.f4.length j4, .int .i64 r.1.f5]) (cs' := [.int .i64 r.1.f0, .slice E1 r.1.f1.length j1, .slice E2 r.1.f2.length j2, .slice E3 r.1.f3.length j3, .slice E4 r.1.f4.length j4, .int .i64 r.1.f5]) hR4 hb5 (by omega) (h := fun w9 hR9 hb9 hg9 => ?_)
        have HF9 := Aside0.mk (Kd.FK_mono (ok' := nw ok w) (Kd.FK_grown HF4.out hg9 (fun k hk he => by have h2 := Option.some.inj he; (try dsimp only at h2); omega)) (fun k hk => hk.elim (fun h => Or.inl h.1) (fun h => Or.inr (by omega))))
        go_wp2
        refine bodyPost_ret (results_list (rs := [.cell 4 66, .tmp 5, .tmp 6]) rfl (by simp) (.cell _ 66 _ (0, 0) _ rfl hR9 Tryz.underlying66 rfl (by kernel_rfl) (.tmp (.tmp .nil)))) rfl ?_
        rw [HV.out, HR2.out]
        exact ⟨_, rfl, HF9.out, hb9⟩
      · have HV := Aside0.mk (show doK s c = (s, 0, 4) from by unfold doK; rw [if_neg (fun h => cb h.2)])
        go_wp2_with ((with_reducible refine gate_store (t := 66) (p := 4) (v := .tmp 31) rfl ?_); refine stop_ ?_)
        refine ⟨?_⟩
        refine stB (w0 := w) (base := w.heap.size) (seg := [.int .i64 s.f0, .slice A1 s.f1.length c1, .slice A2 s.f2.length c2, .slice A3 s.f3.length c3, .slice A4 s.f4.length c4, .int .i64 s.f5]) (cs' := [.int .i64 s.f0, .slice A1 s.f1.length c1, .slice A2 s.f2.length c2, .slice A3 s.f3.length c3, .slice A4 s.f4.length c4, .int .i64 s.f5]) hR3 hbB (by omega) (h := fun w9 hR9 hb9 hg9 => ?_)
        go_wp2
        refine bodyPost_ret (results_list (rs := [.cell 4 66, .tmp 5, .tmp 6]) rfl (by simp) (.cell _ 66 _ (0, 0) _ rfl hR9 Tryz.underlying66 rfl (by kernel_rfl) (.tmp (.tmp .nil)))) rfl ?_
        rw [HV.out]
        exact ⟨_, rfl, Kd.FK_mono (Kd.FK_below H.out hb9) (fun k hk => Or.inl hk.1), hb9⟩
    · have HV := Aside0.mk (show doK s c = (s, 0, 4) from by unfold doK; rw [if_neg (fun h => ca h.1)])
      go_wp2_with ((with_reducible refine gate_store (t := 66) (p := 4) (v := .tmp 31) rfl ?_); refine stop_ ?_)
      refine ⟨?_⟩
      refine stB (w0 := w) (base := w.heap.size) (seg := [.int .i64 s.f0, .slice A1 s.f1.length c1, .slice A2 s.f2.length c2, .slice A3 s.f3.length c3, .slice A4 s.f4.length c4, .int .i64 s.f5]) (cs' := [.int .i64 s.f0, .slice A1 s.f1.length c1, .slice A2 s.f2.length c2, .slice A3 s.f3.length c3, .slice A4 s.f4.length c4, .int .i64 s.f5]) hR3 hbB (by omega) (h := fun w9 hR9 hb9 hg9 => ?_)
      go_wp2
      refine bodyPost_ret (results_list (rs := [.cell 4 66, .tmp 5, .tmp 6]) rfl (by simp) (.cell _ 66 _ (0, 0) _ rfl hR9 Tryz.underlying66 rfl (by kernel_rfl) (.tmp (.tmp .nil)))) rfl ?_
      rw [HV.out]
      exact ⟨_, rfl, Kd.FK_mono (Kd.FK_below H.out hb9) (fun k hk => Or.inl hk.1), hb9⟩
  have K6 := Aside0.mk k6
  clear k6
  by_cases k2 : c.f1 = 2
  · have hkv : kindV c.f1 g1 g2 g3 g4 = .func (.func 67) #[] #[] := by unfold kindV kindR; rw [if_neg K1.out, if_neg K4.out, if_neg K5.out, if_neg K6.out, if_pos k2]; rfl
    rw [hkv]
    have K2 := Aside0.mk k2
    clear hkv k2
    by_cases ca : 0 ≤ c.f0
    · by_cases cb : c.f0 < s.f3.length
      · have HV := Aside0.mk (show doK s c = sendS s c from by unfold doK; rw [if_pos ⟨ca, cb⟩, if_neg K1.out, if_neg K4.out, if_neg K5.out, if_neg K6.out, if_pos K2.out])
        go_wp2_with fail
        refine (kinds5.calls s [.int .i64 s.f0, .slice A1 s.f1.length c1, .slice A2 s.f2.length c2, .slice A3 s.f3.length c3, .slice A4 s.f4.length c4, .int .i64 s.f5] c [.int .i64 c.f0, .int .i64 c.f1, .int .i64 c.f2, .int .i64 c.f3, .int .i64 c.f4.f0, .int .i64 c.f4.f1, .int .i64 c.f4.f2, .slice A7 c.f4.f3.length c7] (fun k => ok k ∧ k < w.heap.size) w3 HX3.out HC3.out (kerR_iff.1 HR.out).2.2.2.2.1).mono ?_; rintro _ w4 ⟨cs4, rfl, hF4, hb4⟩
        have hR4 := blk_below hR3 hb4
        have hb5 := below_step hbB hb4
        have hF4 := Kd.FK_mono (ok' := fun k => (ok k ∧ k < w.heap.size) ∨ w.heap.size + 3 ≤ k) hF4 (fun k hk => hk.elim Or.inl (fun h => Or.inr (by omega)))
        generalize hr : sendS s c = r at hF4 ⊢
        have HR2 := Aside0.mk hr
        have HF4 := Aside0.mk hF4
        obtain ⟨E1, j1, E2, j2, E3, j3, E4, j4, rfl, -, -, -, -, -, -, -, -⟩ := k66_openF hF4
        clear hF4 hr x0 x1 x2 x3 x4 x5 y0 y1 y2 y3 y4 y5 y6 y7
        go_wp2_with ((with_reducible refine gate_store (t := 66) (p := 4) (v := .tmp 36) rfl ?_); refine stop_ ?_)
        refine ⟨?_⟩
        refine stB (w0 := w) (base := w.heap.size) (seg := [.int .i64 r.1.f0, .slice E1 r.1.f1.length j1, .slice E2 r.1.f2.length j2, .slice E3 r.1.f3.length j3, .slice E4 r.1.f4.length j4, .int .i64 r.1.f5]) (cs' := [.int .i64 r.1.f0, .slice E1 r.1.f1.length j1, .slice E2 r.1.f2.length j2, .slice E3 r.1.f3.length j3, .slice E4 r.1.f4.length j4, .int .i64 r.1.f5]) hR4 hb5 (by omega) (h := fun w9 hR9 hb9 hg9 => ?_)
        have HF9 := Aside0.mk (Kd.FK_mono (ok' := nw ok w) (Kd.FK_grown HF4.out hg9 (fun k hk he => by have h2 := Option.some.inj he; (try dsimp only at h2); omega)) (fun k hk => hk.elim (fun h => Or.inl h.1) (fun h => Or.inr (by omega))))
        go_wp2
        refine bodyPost_ret (results_list (rs := [.cell 4 66, .tmp 5, .tmp 6]) rfl (by simp) (.cell _ 66 _ (0, 0) _ rfl hR9 Tryz.underlying66 rfl (by kernel_rfl) (.tmp (.tmp .nil)))) rfl ?_
        rw [HV.out, HR2.out]
        exact ⟨_, rfl, HF9.out, hb9⟩
      · have HV := Aside0.mk (show doK s c = (s, 0, 4) from by unfold doK; rw [if_neg (fun h => cb h.2)])
        go_wp2_with ((with_reducible refine gate_store (t := 66) (p := 4) (v := .tmp 31) rfl ?_); refine stop_ ?_)
        refine ⟨?_⟩
        refine stB (w0 := w) (base := w.heap.size) (seg := [.int .i64 s.f0, .slice A1 s.f1.length c1, .slice A2 s.f2.length c2, .slice A3 s.f3.length c3, .slice A4 s.f4.length c4, .int .i64 s.f5]) (cs' := [.int .i64 s.f0, .slice A1 s.f1.length c1, .slice A2 s.f2.length c2, .slice A3 s.f3.length c3, .slice A4 s.f4.length c4, .int .i64 s.f5]) hR3 hbB (by omega) (h := fun w9 hR9 hb9 hg9 => ?_)
        go_wp2
        refine bodyPost_ret (results_list (rs := [.cell 4 66, .tmp 5, .tmp 6]) rfl (by simp) (.cell _ 66 _ (0, 0) _ rfl hR9 Tryz.underlying66 rfl (by kernel_rfl) (.tmp (.tmp .nil)))) rfl ?_
        rw [HV.out]
        exact ⟨_, rfl, Kd.FK_mono (Kd.FK_below H.out hb9) (fun k hk => Or.inl hk.1), hb9⟩
    · have HV := Aside0.mk (show doK s c = (s, 0, 4) from by unfold doK; rw [if_neg (fun h => ca h.1)])
      go_wp2_with ((with_reducible refine gate_store (t := 66) (p := 4) (v := .tmp 31) rfl ?_); refine stop_ ?_)
      refine ⟨?_⟩
      refine stB (w0 := w) (base := w.heap.size) (seg := [.int .i64 s.f0, .slice A1 s.f1.length c1, .slice A2 s.f2.length c2, .slice A3 s.f3.length c3, .slice A4 s.f4.length c4, .int .i64 s.f5]) (cs' := [.int .i64 s.f0, .slice A1 s.f1.length c1, .slice A2 s.f2.length c2, .slice A3 s.f3.length c3, .slice A4 s.f4.length c4, .int .i64 s.f5]) hR3 hbB (by omega) (h := fun w9 hR9 hb9 hg9 => ?_)
      go_wp2
      refine bodyPost_ret (results_list (rs := [.cell 4 66, .tmp 5, .tmp 6]) rfl (by simp) (.cell _ 66 _ (0, 0) _ rfl hR9 Tryz.underlying66 rfl (by kernel_rfl) (.tmp (.tmp .nil)))) rfl ?_
      rw [HV.out]
      exact ⟨_, rfl, Kd.FK_mono (Kd.FK_below H.out hb9) (fun k hk => Or.inl hk.1), hb9⟩
  have K2 := Aside0.mk k2
  clear k2
  by_cases k3 : c.f1 = 3
  · have hkv : kindV c.f1 g1 g2 g3 g4 = .func (.func 69) #[] #[] := by unfold kindV kindR; rw [if_neg K1.out, if_neg K4.out, if_neg K5.out, if_neg K6.out, if_neg K2.out, if_pos k3]; rfl
    rw [hkv]
    have K3 := Aside0.mk k3
    clear hkv k3
    by_cases ca : 0 ≤ c.f0
    · by_cases cb : c.f0 < s.f3.length
      · have HV := Aside0.mk (show doK s c = readS s c from by unfold doK; rw [if_pos ⟨ca, cb⟩, if_neg K1.out, if_neg K4.out, if_neg K5.out, if_neg K6.out, if_neg K2.out, if_pos K3.out])
        go_wp2_with fail
        refine (kinds6.calls s [.int .i64 s.f0, .slice A1 s.f1.length c1, .slice A2 s.f2.length c2, .slice A3 s.f3.length c3, .slice A4 s.f4.length c4, .int .i64 s.f5] c [.int .i64 c.f0, .int .i64 c.f1, .int .i64 c.f2, .int .i64 c.f3, .int .i64 c.f4.f0, .int .i64 c.f4.f1, .int .i64 c.f4.f2, .slice A7 c.f4.f3.length c7] (fun k => ok k ∧ k < w.heap.size) w3 HX3.out HC3.out (kerR_iff.1 HR.out).2.2.2.2.1).mono ?_; rintro _ w4 ⟨cs4, rfl, hF4, hb4⟩
        have hR4 := blk_below hR3 hb4
        have hb5 := below_step hbB hb4
        have hF4 := Kd.FK_mono (ok' := fun k => (ok k ∧ k < w.heap.size) ∨ w.heap.size + 3 ≤ k) hF4 (fun k hk => hk.elim Or.inl (fun h => Or.inr (by omega)))
        generalize hr : readS s c = r at hF4 ⊢
        have HR2 := Aside0.mk hr
        have HF4 := Aside0.mk hF4
        obtain ⟨E1, j1, E2, j2, E3, j3, E4, j4, rfl, -, -, -, -, -, -, -, -⟩ := k66_openF hF4
        clear hF4 hr x0 x1 x2 x3 x4 x5 y0 y1 y2 y3 y4 y5 y6 y7
        go_wp2_with ((with_reducible refine gate_store (t := 66) (p := 4) (v := .tmp 36) rfl ?_); refine stop_ ?_)
        refine ⟨?_⟩
        refine stB (w0 := w) (base := w.heap.size) (seg := [.int .i64 r.1.f0, .slice E1 r.1.f1.length j1, .slice E2 r.1.f2.length j2, .slice E3 r.1.f3.length j3, .slice E4 r.1.f4.length j4, .int .i64 r.1.f5]) (cs' := [.int .i64 r.1.f0, .slice E1 r.1.f1.length j1, .slice E2 r.1.f2.length j2, .slice E3 r.1.f3.length j3, .slice E4 r.1.f4.length j4, .int .i64 r.1.f5]) hR4 hb5 (by omega) (h := fun w9 hR9 hb9 hg9 => ?_)
        have HF9 := Aside0.mk (Kd.FK_mono (ok' := nw ok w) (Kd.FK_grown HF4.out hg9 (fun k hk he => by have h2 := Option.some.inj he; (try dsimp only at h2); omega)) (fun k hk => hk.elim (fun h => Or.inl h.1) (fun h => Or.inr (by omega))))
        go_wp2
        refine bodyPost_ret (results_list (rs := [.cell 4 66, .tmp 5, .tmp 6]) rfl (by simp) (.cell _ 66 _ (0, 0) _ rfl hR9 Tryz.underlying66 rfl (by kernel_rfl) (.tmp (.tmp .nil)))) rfl ?_
        rw [HV.out, HR2.out]
        exact ⟨_, rfl, HF9.out, hb9⟩
      · have HV := Aside0.mk (show doK s c = (s, 0, 4) from by unfold doK; rw [if_neg (fun h => cb h.2)])
        go_wp2_with ((with_reducible refine gate_store (t := 66) (p := 4) (v := .tmp 31) rfl ?_); refine stop_ ?_)
        refine ⟨?_⟩
        refine stB (w0 := w) (base := w.heap.size) (seg := [.int .i64 s.f0, .slice A1 s.f1.length c1, .slice A2 s.f2.length c2, .slice A3 s.f3.length c3, .slice A4 s.f4.length c4, .int .i64 s.f5]) (cs' := [.int .i64 s.f0, .slice A1 s.f1.length c1, .slice A2 s.f2.length c2, .slice A3 s.f3.length c3, .slice A4 s.f4.length c4, .int .i64 s.f5]) hR3 hbB (by omega) (h := fun w9 hR9 hb9 hg9 => ?_)
        go_wp2
        refine bodyPost_ret (results_list (rs := [.cell 4 66, .tmp 5, .tmp 6]) rfl (by simp) (.cell _ 66 _ (0, 0) _ rfl hR9 Tryz.underlying66 rfl (by kernel_rfl) (.tmp (.tmp .nil)))) rfl ?_
        rw [HV.out]
        exact ⟨_, rfl, Kd.FK_mono (Kd.FK_below H.out hb9) (fun k hk => Or.inl hk.1), hb9⟩
    · have HV := Aside0.mk (show doK s c = (s, 0, 4) from by unfold doK; rw [if_neg (fun h => ca h.1)])
      go_wp2_with ((with_reducible refine gate_store (t := 66) (p := 4) (v := .tmp 31) rfl ?_); refine stop_ ?_)
      refine ⟨?_⟩
      refine stB (w0 := w) (base := w.heap.size) (seg := [.int .i64 s.f0, .slice A1 s.f1.length c1, .slice A2 s.f2.length c2, .slice A3 s.f3.length c3, .slice A4 s.f4.length c4, .int .i64 s.f5]) (cs' := [.int .i64 s.f0, .slice A1 s.f1.length c1, .slice A2 s.f2.length c2, .slice A3 s.f3.length c3, .slice A4 s.f4.length c4, .int .i64 s.f5]) hR3 hbB (by omega) (h := fun w9 hR9 hb9 hg9 => ?_)
      go_wp2
      refine bodyPost_ret (results_list (rs := [.cell 4 66, .tmp 5, .tmp 6]) rfl (by simp) (.cell _ 66 _ (0, 0) _ rfl hR9 Tryz.underlying66 rfl (by kernel_rfl) (.tmp (.tmp .nil)))) rfl ?_
      rw [HV.out]
      exact ⟨_, rfl, Kd.FK_mono (Kd.FK_below H.out hb9) (fun k hk => Or.inl hk.1), hb9⟩
  have K3 := Aside0.mk k3
  clear k3
  have hkv : kindV c.f1 g1 g2 g3 g4 = .nilFunc := by unfold kindV kindR; rw [if_neg K1.out, if_neg K4.out, if_neg K5.out, if_neg K6.out, if_neg K2.out, if_neg K3.out]; rfl
  rw [hkv]
  clear hkv
  have HV := Aside0.mk (show doK s c = (s, 0, 4) from by unfold doK; rw [if_neg K1.out, if_neg K4.out, if_neg K5.out, if_neg K6.out, if_neg K2.out, if_neg K3.out, ite_self])
  go_wp2_with ((with_reducible refine gate_store (t := 66) (p := 4) (v := .tmp 31) rfl ?_); refine stop_ ?_)
  refine ⟨?_⟩
  refine stB (w0 := w) (base := w.heap.size) (seg := [.int .i64 s.f0, .slice A1 s.f1.length c1, .slice A2 s.f2.length c2, .slice A3 s.f3.length c3, .slice A4 s.f4.length c4, .int .i64 s.f5]) (cs' := [.int .i64 s.f0, .slice A1 s.f1.length c1, .slice A2 s.f2.length c2, .slice A3 s.f3.length c3, .slice A4 s.f4.length c4, .int .i64 s.f5]) hR3 hbB (by omega) (h := fun w9 hR9 hb9 hg9 => ?_)
  go_wp2
  refine bodyPost_ret (results_list (rs := [.cell 4 66, .tmp 5, .tmp 6]) rfl (by simp) (.cell _ 66 _ (0, 0) _ rfl hR9 Tryz.underlying66 rfl (by kernel_rfl) (.tmp (.tmp .nil)))) rfl ?_
  rw [HV.out]
  exact ⟨_, rfl, Kd.FK_mono (Kd.FK_below H.out hb9) (fun k hk => Or.inl hk.1), hb9⟩
end Go.Proofs.YtmngaagojkihbaaGreat.FTop
