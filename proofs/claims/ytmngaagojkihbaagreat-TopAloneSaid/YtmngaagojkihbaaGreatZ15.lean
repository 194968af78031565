/- Contracts of functions that the statement TopAlone reaches, and plain lemmas. No condition. -/
import Derived.Test.YtmngaagojkihbaaGreatZ14
namespace Go.Proofs.YtmngaagojkihbaaGreat.FTop
open Go.RowKit Go.Proofs.YtmngaagojkihbaaGreatW.PrintWords Go.Proofs.YtmngaagojkihbaaGreatW.PrintLast Go.Proofs.YtmngaagojkihbaaGreatW.PrintMore
attribute [local go_sem] max2_int min2_int max_two min_two
set_option linter.unusedVariables false
set_option linter.unusedSimpArgs false
set_option maxHeartbeats 8000000
set_option maxRecDepth 100000
abbrev vP (p : S91) : Value := .agg #[.int .i64 p.f0, .int .i64 p.f1, .int .i64 p.f2]
def inB (x : Int) : Bool := decide (0 ≤ x ∧ x < 4)
def portM (p : S91) : Bool := inB p.f0 && inB p.f1 && decide (p.f0 ≠ p.f1 ∧ 1 ≤ p.f2 ∧ p.f2 ≤ 4)
theorem portM_iff {p : S91} : portM p = true ↔ (0 ≤ p.f0 ∧ p.f0 < 4) ∧ (0 ≤ p.f1 ∧ p.f1 < 4) ∧ p.f0 ≠ p.f1 ∧ 1 ≤ p.f2 ∧ p.f2 ≤ 4 := by simp [portM, inB, and_assoc]
theorem pmay1.calls (x : Int) (w : World) : Ret 93 #[.int .i64 x] w (.bool (inB x)) := by
  go_enter Tryz.func93, Tryz.ntmps93
  go_wp2 <;> go_ret <;> exact ⟨rb (by first | (simp [inB]; omega) | (simp [inB]; done)), bl0⟩
theorem port_may.calls (p : S91) (w : World) : Ret 53 #[vP p] w (.bool (portM p)) := by
  have hu := Tryz.underlying91
  have hB := blk_new w (.cells #[.int .i64 p.f0, .int .i64 p.f1, .int .i64 p.f2] 91)
  have hb := @bl1 w (.cells #[.int .i64 p.f0, .int .i64 p.f1, .int .i64 p.f2] 91)
  cases h1 : inB p.f0 with
  | false =>
    have hv := Aside0.mk (show portM p = false by unfold portM; rw [h1]; rfl)
    have H1 := Aside0.mk h1
    clear h1
    go_enter Tryz.func53, Tryz.ntmps53
    go_wp2_with fail
    refine (pmay1.calls p.f0 _).mono ?_; rintro _ w2 ⟨rfl, hb2⟩
    rw [H1.out]
    go_wp2
    go_ret
    exact ⟨by rw [hv.out]; rfl, below_step hb hb2⟩
  | true =>
    have H1 := Aside0.mk h1
    cases h2 : inB p.f1 with
    | false =>
      have hv := Aside0.mk (show portM p = false by unfold portM; rw [h2, Bool.and_false]; rfl)
      have H2 := Aside0.mk h2
      clear h1 h2
      go_enter Tryz.func53, Tryz.ntmps53
      go_wp2_with fail
      refine (pmay1.calls p.f0 _).mono ?_; rintro _ w2 ⟨rfl, hb2⟩
      rw [H1.out]
      obtain ⟨x0, x1, x2⟩ := bx3 (blk_below hB hb2)
      have hbA := below_step hb hb2
      go_wp2_with fail
      refine (pmay1.calls p.f1 _).mono ?_; rintro _ w3 ⟨rfl, hb3⟩
      rw [H2.out]
      go_wp2
      go_ret
      exact ⟨by rw [hv.out]; rfl, below_step hbA hb3⟩
    | true =>
      have hv := Aside0.mk (show portM p = decide (p.f0 ≠ p.f1 ∧ 1 ≤ p.f2 ∧ p.f2 ≤ 4) by unfold portM; rw [h1, h2]; rfl)
      have H2 := Aside0.mk h2
      clear h1 h2
      go_enter Tryz.func53, Tryz.ntmps53
      go_wp2_with fail
      refine (pmay1.calls p.f0 _).mono ?_; rintro _ w2 ⟨rfl, hb2⟩
      rw [H1.out]
      have hB2 := blk_below hB hb2
      obtain ⟨x0, x1, x2⟩ := bx3 hB2
      have hbA := below_step hb hb2
      go_wp2_with fail
      refine (pmay1.calls p.f1 _).mono ?_; rintro _ w3 ⟨rfl, hb3⟩
      rw [H2.out]
      clear x0 x1 x2
      obtain ⟨x0, x1, x2⟩ := bx3 (blk_below hB2 hb3)
      have hbB := below_step hbA hb3
      go_wp2
      all_goals
        go_ret
        exact ⟨by rw [hv.out]; exact rb (by first | (simp; omega) | (simp; done)), hbB⟩
def lineR (x : S135) : Bool := portM x.f0 && ringR x.f1 && ringR x.f2 && decide ((x.f1.f0.length : Int) = x.f0.f2) && decide ((x.f2.f0.length : Int) = x.f0.f2)
theorem lineR_iff {x : S135} : lineR x = true ↔ portM x.f0 = true ∧ ringR x.f1 = true ∧ ringR x.f2 = true ∧ (x.f1.f0.length : Int) = x.f0.f2 ∧ (x.f2.f0.length : Int) = x.f0.f2 := by simp [lineR, and_assoc]
def portR (l : List S135) : Bool := l.all lineR && decide (l.length ≤ 4)
theorem portR_iff {l : List S135} : portR l = true ↔ (∀ x ∈ l, lineR x = true) ∧ l.length ≤ 4 := by simp [portR]
theorem port_Right.calls (A : Option Addr) (c : Nat) (l : List S135) (w : World) (h : Kd.C k135 w A l.length l) (hR : portR l = true) : Ret 57 #[.slice A l.length c] w (.bool true) := by
  have hu := Tryz.underlying135
  have hu2 := Tryz.underlying131
  have hu3 := Tryz.underlying91
  have H := Aside0.mk h
  obtain ⟨hlr, hl4⟩ := portR_iff.1 hR
  have HL := Aside0.mk hlr
  clear h hR hlr
  go_enter Tryz.func57, Tryz.ntmps57
  go_wp2
  go_loopg [7] l.length (fun k v7 wr => ∃ i : Nat, i + k = l.length ∧ v7 = .int .i64 i ∧ Below w.heap.size w wr)
  case atStart => exact ⟨0, by omega, by go_num, bl0⟩
  case round =>
    obtain ⟨i, hi, rfl, hbr⟩ := hrel
    by_cases ci : i < l.length
    · obtain ⟨ad, A3, c3, A6, c6, x, rfl, hx, e0, e1, e2, e3, e4, e5, e6, e7, e8, l3, -, l6, -⟩ := el135 (Kd.C_below H.out hbr) i ci
      have hlx := lineR_iff.1 (show lineR x = true by rw [← hx.out]; exact HL.out _ (List.getElem_mem ci))
      obtain ⟨hm, hr1, hr2, hn1, hn2⟩ := hlx
      have hpm := portM_iff.1 hm
      have HM := Aside0.mk hm
      have HR1 := Aside0.mk hr1
      have HR2 := Aside0.mk hr2
      have q1 : x.f1.f0.length ≤ 4 := by omega
      have q2 : x.f2.f0.length ≤ 4 := by omega
      have n1 : ((x.f1.f0.length : Int) != x.f0.f2) = false := by simpa using hn1
      have n2 : ((x.f2.f0.length : Int) != x.f0.f2) = false := by simpa using hn2
      have n3 : ((x.f1.f0.length : Int) == x.f0.f2) = true := by simpa using hn1
      have n4 : ((x.f2.f0.length : Int) == x.f0.f2) = true := by simpa using hn2
      clear hm hr1 hr2 hn1 hn2
      have hX := blk_new wr (.cells #[.int .i64 x.f0.f0, .int .i64 x.f0.f1, .int .i64 x.f0.f2, .slice A3 x.f1.f0.length c3, .int .i64 x.f1.f1, .int .i64 x.f1.f2, .slice A6 x.f2.f0.length c6, .int .i64 x.f2.f1, .int .i64 x.f2.f2] 135)
      have hb1 := below_alloc hbr (.cells #[.int .i64 x.f0.f0, .int .i64 x.f0.f1, .int .i64 x.f0.f2, .slice A3 x.f1.f0.length c3, .int .i64 x.f1.f1, .int .i64 x.f1.f2, .slice A6 x.f2.f0.length c6, .int .i64 x.f2.f1, .int .i64 x.f2.f2] 135)
      go_wp2_with fail
      refine (port_may.calls x.f0 _).mono ?_; rintro _ w2 ⟨rfl, hb2⟩
      rw [HM.out]
      have hX2 := blk_below hX hb2
      have hb3 := below_step hb1 hb2
      clear e0 e1 e2 e3 e4 e5 e6 e7 e8 hX hb1 hbr hb2
      generalize wr.heap.size = gx at hX2 ⊢
      obtain ⟨z0, z1, z2, z3, z4, z5, z6, z7, z8⟩ := bx9 hX2
      go_wp2_with fail
      refine (ring_Right.calls x.f1 A3 c3 _ HR1.out q1).mono ?_; rintro _ w3 ⟨rfl, hb4⟩
      have hX3 := blk_below hX2 hb4
      have hb5 := below_step hb3 hb4
      clear z0 z1 z2 z3 z4 z5 z6 z7 z8
      obtain ⟨z0, z1, z2, z3, z4, z5, z6, z7, z8⟩ := bx9 hX3
      go_wp2_with fail
      refine (ring_Right.calls x.f2 A6 c6 _ HR2.out q2).mono ?_; rintro _ w4 ⟨rfl, hb6⟩
      have hX4 := blk_below hX3 hb6
      have hb7 := below_step hb5 hb6
      clear z0 z1 z2 z3 z4 z5 z6 z7 z8
      obtain ⟨z0, z1, z2, z3, z4, z5, z6, z7, z8⟩ := bx9 hX4
      go_wp2
      go_roundg (l.length - i - 1)
      case measure => omega
      case rel => exact ⟨i + 1, by omega, by go_num, hb7⟩
    · have hv : (l.length : Int) ≤ 4 := by omega
      go_wp2
      go_ret
      exact ⟨rb (by simp; done), hbr⟩
section
variable {α : Type} {d : Kd α} {e g n cap i base : Nat} {ops : Array Oper} {rest : List Oper} {o : Oper} {a : Act} {Q : Exit → Act → World → Prop} {w0 W : World} {x pp : Operand} {ok okp : Nat → Prop} {xs : List α} {x' : α} {u : Value} {seg : List Value}
theorem stNW (HO : Kd.N d e W base ok (.slice (some ⟨g, 0, none⟩) n cap) xs) (hi : i < n) (hM : Kd.FK d W okp x' seg) (hokp : ∀ k, okp k → ok k ∧ k ≠ g) (HB : Below base w0 W) (z : α)
    (ho : o.op = .store e pp x := by rfl) (hgd : o.guard = none := by rfl) (hN : o.dst = none := by rfl) (hp : a.eval pp = .pointer (some ⟨g, i * d.sz, none⟩) := by rfl) (hx : a.eval x = u := by rfl) (hu : u.cells.toList = seg := by rfl) (ht : (Tryz.prog.info? e).map (·.size) = some seg.length := by kernel_rfl) (h1 : seg.all Value.oneCell' = true := by rfl)
    (h : ∀ w1, Kd.N d e w1 base ok (.slice (some ⟨g, 0, none⟩) n cap) (xs.set i x') → Below base w0 w1 → W.grownBy w1 (some g) → wpList Tryz.prog ops Q rest a w1) : wpList Tryz.prog ops Q (o :: rest) a W := by
  obtain ⟨c, hcl, _, hcc, _⟩ := Kd.N_elem HO z (i : Int) (by omega) (by omega)
  have hsl : seg.length = d.sz := d.K_len (Kd.FK_now hM)
  refine Kd.N_store d (w0 := w0) base hN hgd e pp x ho e (i : Int) 0 xs x' u seg c ok okp hp (by rw [Int.toNat_natCast]; omega) hx hu ht (fun q hq => List.all_eq_true.1 h1 q hq) HO (by omega) (by omega) hcl hcc (by omega) ?_ hokp HB (by rw [Int.toNat_natCast]; exact h)
  rw [List.take_zero, List.nil_append, Nat.zero_add, List.drop_eq_nil_of_le (by omega), List.append_nil]
  exact hM
end
theorem port_with.calls (A : Option Addr) (c : Nat) (l : List S135) (i : Nat) (x : S135) (cs : List Value) (ok : Nat → Prop) (w : World) (h : Kd.F k135 w ok A l.length l) (hx : Kd.FK k135 w ok x cs) (hi : i < l.length) (h4 : l.length ≤ 4) :
    Calls Tryz.prog 73 #[.slice A l.length c, .int .i64 i, .agg cs.toArray] w fun e w' => ∃ v, e = .returned v ∧ Kd.N k135 135 w' w.heap.size (nwb ok w) v (l.set i x) ∧ Below w.heap.size w w' := by
  have hu := Tryz.underlying135
  have H := Aside0.mk (Kd.F_bound h)
  have HX := Aside0.mk (Kd.FK_bound hx)
  obtain ⟨A3, c3, A6, c6, rfl, l3, -, l6, -⟩ := k135_open (Kd.FK_now hx)
  clear h hx
  have hB0 := blk_new w (.cells #[.int .i64 x.f0.f0, .int .i64 x.f0.f1, .int .i64 x.f0.f2, .slice A3 x.f1.f0.length c3, .int .i64 x.f1.f1, .int .i64 x.f1.f2, .slice A6 x.f2.f0.length c6, .int .i64 x.f2.f1, .int .i64 x.f2.f2] 135)
  have hb := @bl1 w (.cells #[.int .i64 x.f0.f0, .int .i64 x.f0.f1, .int .i64 x.f0.f2, .slice A3 x.f1.f0.length c3, .int .i64 x.f1.f1, .int .i64 x.f1.f2, .slice A6 x.f2.f0.length c6, .int .i64 x.f2.f1, .int .i64 x.f2.f2] 135)
  have z1 : (w.alloc (.cells #[.int .i64 x.f0.f0, .int .i64 x.f0.f1, .int .i64 x.f0.f2, .slice A3 x.f1.f0.length c3, .int .i64 x.f1.f1, .int .i64 x.f1.f2, .slice A6 x.f2.f0.length c6, .int .i64 x.f2.f1, .int .i64 x.f2.f2] 135)).heap.size = w.heap.size + 1 := alsz
  have hN0 := N_empty (d := k135) (w.alloc (.cells #[.int .i64 x.f0.f0, .int .i64 x.f0.f1, .int .i64 x.f0.f2, .slice A3 x.f1.f0.length c3, .int .i64 x.f1.f1, .int .i64 x.f1.f2, .slice A6 x.f2.f0.length c6, .int .i64 x.f2.f1, .int .i64 x.f2.f2] 135)) w.heap.size (nwb ok w) 135 (by rw [z1]; omega) (Or.inr (by rw [z1]; omega))
  rw [z1] at hN0
  go_enter Tryz.func73, Tryz.ntmps73
  go_wp2_with (first
    | ((with_reducible refine gate_builtin (b := .append) (xs := #[.tmp 8, .tmp 9]) rfl ?_); at_builtin; refine apNR row135 (w0 := w) hN0 (Kd.F_below H.out (below_alloc hb _)) (fun k hk => ⟨Or.inl hk, ne_own hN0 hk.2⟩) (fun k hk => Or.inr (by rw [alsz, z1] at hk; omega)) (below_alloc hb _) (by rw [alsz, z1]; omega) (by show 0 + l.length ≤ 100000; omega) (h := fun v5 w5 hN5 hb5 hg5 hat5 => ?_); (rw [List.nil_append] at hN5); (obtain ⟨g, c5, rfl, hbg, hgl, -⟩ := Kd.N_form hN5 (by omega)); (have HN5 := Aside0.mk hN5); (have hB5 := blk_grown (blk_al hB0 (.cells #[] 135)) hg5 (fun he => by have h2 : w.heap.size = w.heap.size + 1 := Option.some.inj he; omega)); clear hN5; (obtain ⟨y0, y1, y2, y3, y4, y5, y6, y7, y8⟩ := bx9 hB5))
    | ((with_reducible refine gate_store (t := 135) (p := 14) (v := .tmp 13) rfl ?_); refine stNW (d := k135) (w0 := w) (i := i) (seg := [.int .i64 x.f0.f0, .int .i64 x.f0.f1, .int .i64 x.f0.f2, .slice A3 x.f1.f0.length c3, .int .i64 x.f1.f1, .int .i64 x.f1.f2, .slice A6 x.f2.f0.length c6, .int .i64 x.f2.f1, .int .i64 x.f2.f2]) HN5.out hi (Kd.FK_below HX.out hb5) (fun k hk => ⟨Or.inl hk, by have := hk.2; omega⟩) hb5 z135 (h := fun w6 hN6 hb6 hg6 => ?_)))
  go_ret
  exact ⟨_, rfl, hN6, hb6⟩
theorem el135F {w : World} {ok : Nat → Prop} {A : Option Addr} {l : List S135} (h : Kd.F k135 w ok A l.length l) (i : Nat) (hi : i < l.length) : ∃ (ad : Addr) (A3 : Option Addr) (c3 : Nat) (A6 : Option Addr) (c6 : Nat) (t : S135), A = some ad ∧ Aside0 (l[i] = t) ∧ w.cell? (ad.add (i * 9)) = some (.int .i64 t.f0.f0) ∧ w.cell? ⟨(ad.add (i * 9)).block, (ad.add (i * 9)).off + 1, none⟩ = some (.int .i64 t.f0.f1) ∧ w.cell? ⟨(ad.add (i * 9)).block, (ad.add (i * 9)).off + 2, none⟩ = some (.int .i64 t.f0.f2) ∧ w.cell? ⟨(ad.add (i * 9)).block, (ad.add (i * 9)).off + 3, none⟩ = some (.slice A3 t.f1.f0.length c3) ∧ w.cell? ⟨(ad.add (i * 9)).block, (ad.add (i * 9)).off + 4, none⟩ = some (.int .i64 t.f1.f1) ∧ w.cell? ⟨(ad.add (i * 9)).block, (ad.add (i * 9)).off + 5, none⟩ = some (.int .i64 t.f1.f2) ∧ w.cell? ⟨(ad.add (i * 9)).block, (ad.add (i * 9)).off + 6, none⟩ = some (.slice A6 t.f2.f0.length c6) ∧ w.cell? ⟨(ad.add (i * 9)).block, (ad.add (i * 9)).off + 7, none⟩ = some (.int .i64 t.f2.f1) ∧ w.cell? ⟨(ad.add (i * 9)).block, (ad.add (i * 9)).off + 8, none⟩ = some (.int .i64 t.f2.f2) ∧ t.f1.f0.length ≤ c3 ∧ Kd.F (Kd.int .i64) w ok A3 t.f1.f0.length t.f1.f0 ∧ t.f2.f0.length ≤ c6 ∧ Kd.F (Kd.int .i64) w ok A6 t.f2.f0.length t.f2.f0 := by
  obtain ⟨ad, c, hA, hcl, hK, hc, -⟩ := Kd.F_get h z135 (i : Int) (by omega) (by omega)
  have hq : l.getD (i : Int).toNat z135 = l[i] := by rw [Int.toNat_natCast, List.getD_eq_getElem?_getD, List.getElem?_eq_getElem hi, Option.getD_some]
  rw [hq] at hK
  rw [Int.toNat_natCast] at hc
  obtain ⟨A3, c3, A6, c6, rfl, l3, g3, l6, g6⟩ := k135_openF hK
  have hc : ∀ j u, [.int .i64 l[i].f0.f0, .int .i64 l[i].f0.f1, .int .i64 l[i].f0.f2, .slice A3 l[i].f1.f0.length c3, .int .i64 l[i].f1.f1, .int .i64 l[i].f1.f2, .slice A6 l[i].f2.f0.length c6, .int .i64 l[i].f2.f1, .int .i64 l[i].f2.f2][j]? = some u → w.cell? (ad.add (i * 9 + j)) = some u := hc
  exact ⟨ad, A3, c3, A6, c6, l[i], hA, ⟨rfl⟩, hc 0 _ rfl, by rw [← add_field _ _ 1 (by omega)]; exact hc 1 _ rfl, by rw [← add_field _ _ 2 (by omega)]; exact hc 2 _ rfl, by rw [← add_field _ _ 3 (by omega)]; exact hc 3 _ rfl, by rw [← add_field _ _ 4 (by omega)]; exact hc 4 _ rfl, by rw [← add_field _ _ 5 (by omega)]; exact hc 5 _ rfl, by rw [← add_field _ _ 6 (by omega)]; exact hc 6 _ rfl, by rw [← add_field _ _ 7 (by omega)]; exact hc 7 _ rfl, by rw [← add_field _ _ 8 (by omega)]; exact hc 8 _ rfl, l3, g3, l6, g6⟩
def sendL (l : List S135) (fr i v : Int) : List S135 × Int :=
  if i < 0 ∨ l.length ≤ i then (l, 4)
  else if (l.getD i.toNat z135).f0.f0 = fr then
    (if (pushR (l.getD i.toNat z135).f1 v).2 = 0 then (l.set i.toNat ⟨(l.getD i.toNat z135).f0, (pushR (l.getD i.toNat z135).f1 v).1, (l.getD i.toNat z135).f2⟩, 0) else (l, (pushR (l.getD i.toNat z135).f1 v).2))
  else (l, 7)
theorem port_Send.calls (A : Option Addr) (c : Nat) (l : List S135) (fr i v : Int) (ok : Nat → Prop) (w : World) (h : Kd.F k135 w ok A l.length l) (hlc : l.length ≤ c) (hR : portR l = true) :
    Calls Tryz.prog 68 #[.slice A l.length c, .int .i64 fr, .int .i64 i, .int .i64 v] w fun e w' => ∃ A' c', e = .returned (.tuple #[.slice A' (sendL l fr i v).1.length c', .int .i64 (sendL l fr i v).2]) ∧ (sendL l fr i v).1.length ≤ c' ∧ Kd.F k135 w' (nw ok w) A' (sendL l fr i v).1.length (sendL l fr i v).1 ∧ Below w.heap.size w w' := by
  have hu := Tryz.underlying135
  have hu2 := Tryz.underlying131
  have H := Aside0.mk (Kd.F_bound h)
  have HK := Aside0.mk h
  have HR := Aside0.mk hR
  obtain ⟨hlr, hl4⟩ := portR_iff.1 hR
  have HL := Aside0.mk hlr
  clear h hR hlr
  by_cases q1 : i < 0
  · have hv := Aside0.mk (show sendL l fr i v = (l, 4) from if_pos (Or.inl q1))
    go_enter Tryz.func68, Tryz.ntmps68
    go_wp2_with fail
    refine (port_Right.calls A c l w (Kd.F_now HK.out) HR.out).mono ?_; rintro _ w2 ⟨rfl, hb2⟩
    go_wp2
    go_ret2
    exact ⟨A, c, by rw [hv.out]; rfl, by rw [hv.out]; exact hlc, by rw [hv.out]; exact Kd.F_mono (Kd.F_below HK.out hb2) (fun k hk => Or.inl hk), hb2⟩
  obtain ⟨n, rfl⟩ : ∃ n : Nat, i = n := ⟨i.toNat, by omega⟩
  by_cases q2 : (l.length : Int) ≤ n
  · have hv := Aside0.mk (show sendL l fr n v = (l, 4) from if_pos (Or.inr q2))
    go_enter Tryz.func68, Tryz.ntmps68
    go_wp2_with fail
    refine (port_Right.calls A c l w (Kd.F_now HK.out) HR.out).mono ?_; rintro _ w2 ⟨rfl, hb2⟩
    go_wp2
    go_ret2
    exact ⟨A, c, by rw [hv.out]; rfl, by rw [hv.out]; exact hlc, by rw [hv.out]; exact Kd.F_mono (Kd.F_below HK.out hb2) (fun k hk => Or.inl hk), hb2⟩
  have hnl : n < l.length := by omega
  go_enter Tryz.func68, Tryz.ntmps68
  go_wp2_with fail
  refine (port_Right.calls A c l w (Kd.F_now HK.out) HR.out).mono ?_; rintro _ w2 ⟨rfl, hb2⟩
  obtain ⟨ad, A3, c3, A6, c6, x, rfl, hx, e0, e1, e2, e3, e4, e5, e6, e7, e8, l3, g3, l6, g6⟩ := el135F (Kd.F_below H.out hb2) n hnl
  have hxd : l.getD n z135 = x := by rw [List.getD_eq_getElem?_getD, List.getElem?_eq_getElem hnl, Option.getD_some, hx.out]
  have hv0 := Aside0.mk (show sendL l fr n v = if x.f0.f0 = fr then (if (pushR x.f1 v).2 = 0 then (l.set n ⟨x.f0, (pushR x.f1 v).1, x.f2⟩, 0) else (l, (pushR x.f1 v).2)) else (l, 7) by unfold sendL; rw [if_neg (by omega), Int.toNat_natCast, hxd])
  have hlx := lineR_iff.1 (show lineR x = true by rw [← hx.out]; exact HL.out _ (List.getElem_mem hnl))
  have HLX := Aside0.mk hlx
  have hq4 : x.f1.f0.length ≤ 4 := by have := portM_iff.1 hlx.1; omega
  have G3 := Aside0.mk g3
  have G6 := Aside0.mk g6
  clear hxd hlx g3 g6
  by_cases cf : x.f0.f0 = fr
  · have hv1 := Aside0.mk (hv0.out.trans (if_pos cf))
    have cf2 : (x.f0.f0 == fr) = true := by simpa using cf
    have cf3 : (x.f0.f0 != fr) = false := by simpa using cf
    clear cf
    go_wp2_with fail
    have zX : (w2.alloc (.cells #[.int .i64 x.f0.f0, .int .i64 x.f0.f1, .int .i64 x.f0.f2, .slice A3 x.f1.f0.length c3, .int .i64 x.f1.f1, .int .i64 x.f1.f2, .slice A6 x.f2.f0.length c6, .int .i64 x.f2.f1, .int .i64 x.f2.f2] 135)).heap.size = w2.heap.size + 1 := alsz
    have hs2 := hb2.size
    refine (ring_Push.calls x.f1 [.slice A3 x.f1.f0.length c3, .int .i64 x.f1.f1, .int .i64 x.f1.f2] v (fun k => ok k ∧ k < w.heap.size) _ (k131_mkF _ _ x.f1 l3 (Kd.F_below G3.out bl1)) HLX.out.2.1 hq4).mono ?_; rintro _ w3 ⟨cs3, rfl, hF3, hb3⟩
    have hX3 := blk_below (blk_new w2 (.cells #[.int .i64 x.f0.f0, .int .i64 x.f0.f1, .int .i64 x.f0.f2, .slice A3 x.f1.f0.length c3, .int .i64 x.f1.f1, .int .i64 x.f1.f2, .slice A6 x.f2.f0.length c6, .int .i64 x.f2.f1, .int .i64 x.f2.f2] 135)) hb3
    have hb4 := below_step (below_alloc hb2 (.cells #[.int .i64 x.f0.f0, .int .i64 x.f0.f1, .int .i64 x.f0.f2, .slice A3 x.f1.f0.length c3, .int .i64 x.f1.f1, .int .i64 x.f1.f2, .slice A6 x.f2.f0.length c6, .int .i64 x.f2.f1, .int .i64 x.f2.f2] 135)) hb3
    have G6b := Aside0.mk (Kd.F_below (Kd.F_below G6.out bl1) hb3)
    have hs3 := hb3.size
    rw [zX] at hs3
    clear e0 e1 e2 e3 e4 e5 e6 e7 e8
    generalize pushR x.f1 v = p at hF3 hv1 ⊢
    have HF3 := Aside0.mk (Kd.FK_mono (ok' := fun k => (ok k ∧ k < w.heap.size) ∨ w2.heap.size + 1 ≤ k) hF3 (fun k hk => hk.elim Or.inl (fun h => Or.inr (by rw [zX] at h; exact h))))
    obtain ⟨B, d, rfl, ld, -⟩ := k131_openF hF3
    clear hF3
    by_cases cp : p.2 = 0
    · have hv := Aside0.mk (hv1.out.trans (if_pos cp))
      have cp2 : (p.2 == 0) = true := by rw [cp]; rfl
      have cp3 : (p.2 != 0) = false := by rw [cp]; rfl
      clear cp
      have hX4 := blk_al hX3 (.cells #[.slice B p.1.f0.length d, .int .i64 p.1.f1, .int .i64 p.1.f2] 131)
      have hb5 := below_alloc hb4 (.cells #[.slice B p.1.f0.length d, .int .i64 p.1.f1, .int .i64 p.1.f2] 131)
      have z3 : (w3.alloc (.cells #[.slice B p.1.f0.length d, .int .i64 p.1.f1, .int .i64 p.1.f2] 131)).heap.size = w3.heap.size + 1 := alsz
      have HF4 := Aside0.mk (Kd.FK_below HF3.out (@bl1 w3 (.cells #[.slice B p.1.f0.length d, .int .i64 p.1.f1, .int .i64 p.1.f2] 131)))
      have G6c := Aside0.mk (Kd.F_below G6b.out (@bl1 w3 (.cells #[.slice B p.1.f0.length d, .int .i64 p.1.f1, .int .i64 p.1.f2] 131)))
      go_wp2_with ((with_reducible refine gate_store (t := 131) (p := 54) (v := .tmp 53) rfl ?_); refine stB (w0 := w) (base := w.heap.size) (seg := [.slice B p.1.f0.length d, .int .i64 p.1.f1, .int .i64 p.1.f2]) (cs' := [.int .i64 x.f0.f0, .int .i64 x.f0.f1, .int .i64 x.f0.f2, .slice B p.1.f0.length d, .int .i64 p.1.f1, .int .i64 p.1.f2, .slice A6 x.f2.f0.length c6, .int .i64 x.f2.f1, .int .i64 x.f2.f2]) hX4 hb5 hs2 (h := fun w5 hX5 hb6 hg5 => ?_); (have HF5 := Aside0.mk (Kd.FK_grown HF4.out hg5 (fun k hk he => by have h2 : k = w2.heap.size := Option.some.inj he; rcases hk with h | h <;> omega))); (have G6d := Aside0.mk (Kd.F_grown G6c.out hg5 (fun k hk he => by have h2 : k = w2.heap.size := Option.some.inj he; have := hk.2; omega))); (obtain ⟨y0, y1, y2, y3, y4, y5, y6, y7, y8⟩ := bx9 hX5))
      obtain ⟨B', d', he', -, gB⟩ := k131_openF HF5.out
      have hB' : B = B' ∧ d = d' := by
        have h1 := congrArg (fun l => l[0]?) he'
        simp only [List.getElem?_cons_zero] at h1
        have h2 := Option.some.inj h1
        injection h2 with h3 h4 h5
        exact ⟨h3, h5⟩
      obtain ⟨rfl, rfl⟩ := hB'
      refine (port_with.calls (some ad) c l n ⟨x.f0, p.1, x.f2⟩ [.int .i64 x.f0.f0, .int .i64 x.f0.f1, .int .i64 x.f0.f2, .slice B p.1.f0.length d, .int .i64 p.1.f1, .int .i64 p.1.f2, .slice A6 x.f2.f0.length c6, .int .i64 x.f2.f1, .int .i64 x.f2.f2] (fun k => (ok k ∧ k < w.heap.size) ∨ w2.heap.size + 1 ≤ k) w5 (Kd.F_mono (Kd.F_below H.out hb6) (fun k hk => Or.inl hk)) (k135_mkF w5 _ ⟨x.f0, p.1, x.f2⟩ ld gB l6 (Kd.F_mono G6d.out (fun k hk => Or.inl hk))) hnl hl4).mono ?_; rintro _ w6 ⟨v6, rfl, hN6, hb7⟩
      obtain ⟨A7, c7, rfl⟩ := Kd.N_slice hN6
      have hc7 := (Kd.N_reads' hN6).2.1
      have HN6 := Aside0.mk hN6
      have hs5 := hb6.size
      clear hN6
      go_wp2
      go_ret2
      exact ⟨A7, c7, by rw [hv.out]; first | rfl | simp, by rw [hv.out]; exact hc7, by rw [hv.out]; exact Kd.F_mono (Kd.N_F HN6.out) (fun k hk => hk.elim (fun h => h.1.elim (fun h => Or.inl h.1) (fun h => Or.inr (by omega))) (fun h => Or.inr (by omega))), below_step hb6 hb7⟩
    · have hv := Aside0.mk (hv1.out.trans (if_neg cp))
      have cp2 : (p.2 == 0) = false := by simpa using cp
      have cp3 : (p.2 != 0) = true := by simpa using cp
      clear cp
      go_wp2
      go_ret2
      exact ⟨some ad, c, by rw [hv.out]; rfl, by rw [hv.out]; exact hlc, by rw [hv.out]; exact Kd.F_mono (Kd.F_below (Kd.F_below HK.out hb4) bl1) (fun k hk => Or.inl hk), below_alloc hb4 _⟩
  · have hv := Aside0.mk (hv0.out.trans (if_neg cf))
    have cf2 : (x.f0.f0 == fr) = false := by simpa using cf
    have cf3 : (x.f0.f0 != fr) = true := by simpa using cf
    clear cf
    go_wp2
    go_ret2
    exact ⟨some ad, c, by rw [hv.out]; rfl, by rw [hv.out]; exact hlc, by rw [hv.out]; exact Kd.F_mono (Kd.F_below HK.out hb2) (fun k hk => Or.inl hk), hb2⟩
def readL (l : List S135) (tt i : Int) : Int × List S135 × Int :=
  if i < 0 ∨ l.length ≤ i then (0, l, 4)
  else if (l.getD i.toNat z135).f0.f1 = tt then
    (if (popR (l.getD i.toNat z135).f2).2.2 = 0 then ((popR (l.getD i.toNat z135).f2).1, l.set i.toNat ⟨(l.getD i.toNat z135).f0, (l.getD i.toNat z135).f1, (popR (l.getD i.toNat z135).f2).2.1⟩, 0) else (0, l, (popR (l.getD i.toNat z135).f2).2.2))
  else (0, l, 7)
theorem port_Read.calls (A : Option Addr) (c : Nat) (l : List S135) (tt i : Int) (ok : Nat → Prop) (w : World) (h : Kd.F k135 w ok A l.length l) (hlc : l.length ≤ c) (hR : portR l = true) :
    Calls Tryz.prog 70 #[.slice A l.length c, .int .i64 tt, .int .i64 i] w fun e w' => ∃ A' c', e = .returned (.tuple #[.int .i64 (readL l tt i).1, .slice A' (readL l tt i).2.1.length c', .int .i64 (readL l tt i).2.2]) ∧ (readL l tt i).2.1.length ≤ c' ∧ Kd.F k135 w' (nw ok w) A' (readL l tt i).2.1.length (readL l tt i).2.1 ∧ Below w.heap.size w w' := by
  have hu := Tryz.underlying135
  have hu2 := Tryz.underlying131
  have H := Aside0.mk (Kd.F_bound h)
  have HK := Aside0.mk h
  have HR := Aside0.mk hR
  obtain ⟨hlr, hl4⟩ := portR_iff.1 hR
  have HL := Aside0.mk hlr
  clear h hR hlr
  by_cases q1 : i < 0
  · have hv := Aside0.mk (show readL l tt i = (0, l, 4) from if_pos (Or.inl q1))
    go_enter Tryz.func70, Tryz.ntmps70
    go_wp2_with fail
    refine (port_Right.calls A c l w (Kd.F_now HK.out) HR.out).mono ?_; rintro _ w2 ⟨rfl, hb2⟩
    go_wp2
    (try simp only [Exit.inBlock, Exit.then])
    refine bodyPost_ret (results_list (rs := [.tmp 6, .tmp 7, .tmp 8]) rfl (by simp) (.tmp (.tmp (.tmp .nil)))) rfl ?_
    exact ⟨A, c, by rw [hv.out]; rfl, by rw [hv.out]; exact hlc, by rw [hv.out]; exact Kd.F_mono (Kd.F_below HK.out hb2) (fun k hk => Or.inl hk), hb2⟩
  obtain ⟨n, rfl⟩ : ∃ n : Nat, i = n := ⟨i.toNat, by omega⟩
  by_cases q2 : (l.length : Int) ≤ n
  · have hv := Aside0.mk (show readL l tt n = (0, l, 4) from if_pos (Or.inr q2))
    go_enter Tryz.func70, Tryz.ntmps70
    go_wp2_with fail
    refine (port_Right.calls A c l w (Kd.F_now HK.out) HR.out).mono ?_; rintro _ w2 ⟨rfl, hb2⟩
    go_wp2
    (try simp only [Exit.inBlock, Exit.then])
    refine bodyPost_ret (results_list (rs := [.tmp 6, .tmp 7, .tmp 8]) rfl (by simp) (.tmp (.tmp (.tmp .nil)))) rfl ?_
    exact ⟨A, c, by rw [hv.out]; rfl, by rw [hv.out]; exact hlc, by rw [hv.out]; exact Kd.F_mono (Kd.F_below HK.out hb2) (fun k hk => Or.inl hk), hb2⟩
  have hnl : n < l.length := by omega
  go_enter Tryz.func70, Tryz.ntmps70
  go_wp2_with fail
  refine (port_Right.calls A c l w (Kd.F_now HK.out) HR.out).mono ?_; rintro _ w2 ⟨rfl, hb2⟩
  obtain ⟨ad, A3, c3, A6, c6, x, rfl, hx, e0, e1, e2, e3, e4, e5, e6, e7, e8, l3, g3, l6, g6⟩ := el135F (Kd.F_below H.out hb2) n hnl
  have hxd : l.getD n z135 = x := by rw [List.getD_eq_getElem?_getD, List.getElem?_eq_getElem hnl, Option.getD_some, hx.out]
  have hv0 := Aside0.mk (show readL l tt n = if x.f0.f1 = tt then (if (popR x.f2).2.2 = 0 then ((popR x.f2).1, l.set n ⟨x.f0, x.f1, (popR x.f2).2.1⟩, 0) else (0, l, (popR x.f2).2.2)) else (0, l, 7) by unfold readL; rw [if_neg (by omega), Int.toNat_natCast, hxd])
  have hlx := lineR_iff.1 (show lineR x = true by rw [← hx.out]; exact HL.out _ (List.getElem_mem hnl))
  have HLX := Aside0.mk hlx
  have hq4 : x.f2.f0.length ≤ 4 := by have := portM_iff.1 hlx.1; omega
  have G3 := Aside0.mk g3
  have G6 := Aside0.mk g6
  clear hxd hlx g3 g6
  by_cases cf : x.f0.f1 = tt
  · have hv1 := Aside0.mk (hv0.out.trans (if_pos cf))
    have cf2 : (x.f0.f1 == tt) = true := by simpa using cf
    have cf3 : (x.f0.f1 != tt) = false := by simpa using cf
    clear cf
    go_wp2_with fail
    have zX : (w2.alloc (.cells #[.int .i64 x.f0.f0, .int .i64 x.f0.f1, .int .i64 x.f0.f2, .slice A3 x.f1.f0.length c3, .int .i64 x.f1.f1, .int .i64 x.f1.f2, .slice A6 x.f2.f0.length c6, .int .i64 x.f2.f1, .int .i64 x.f2.f2] 135)).heap.size = w2.heap.size + 1 := alsz
    have hs2 := hb2.size
    refine (ring_Pop.calls x.f2 [.slice A6 x.f2.f0.length c6, .int .i64 x.f2.f1, .int .i64 x.f2.f2] (fun k => ok k ∧ k < w.heap.size) _ (k131_mkF _ _ x.f2 l6 (Kd.F_below G6.out bl1)) HLX.out.2.2.1 hq4).mono ?_; rintro _ w3 ⟨cs3, rfl, hF3, hb3⟩
    have hX3 := blk_below (blk_new w2 (.cells #[.int .i64 x.f0.f0, .int .i64 x.f0.f1, .int .i64 x.f0.f2, .slice A3 x.f1.f0.length c3, .int .i64 x.f1.f1, .int .i64 x.f1.f2, .slice A6 x.f2.f0.length c6, .int .i64 x.f2.f1, .int .i64 x.f2.f2] 135)) hb3
    have hb4 := below_step (below_alloc hb2 (.cells #[.int .i64 x.f0.f0, .int .i64 x.f0.f1, .int .i64 x.f0.f2, .slice A3 x.f1.f0.length c3, .int .i64 x.f1.f1, .int .i64 x.f1.f2, .slice A6 x.f2.f0.length c6, .int .i64 x.f2.f1, .int .i64 x.f2.f2] 135)) hb3
    have G6b := Aside0.mk (Kd.F_below (Kd.F_below G3.out bl1) hb3)
    have hs3 := hb3.size
    rw [zX] at hs3
    clear e0 e1 e2 e3 e4 e5 e6 e7 e8
    generalize popR x.f2 = pp at hF3 hv1 ⊢
    obtain ⟨vv, p⟩ := pp
    dsimp only at hF3 hv1 ⊢
    have HF3 := Aside0.mk (Kd.FK_mono (ok' := fun k => (ok k ∧ k < w.heap.size) ∨ w2.heap.size + 1 ≤ k) hF3 (fun k hk => hk.elim Or.inl (fun h => Or.inr (by rw [zX] at h; exact h))))
    obtain ⟨B, d, rfl, ld, -⟩ := k131_openF hF3
    clear hF3
    by_cases cp : p.2 = 0
    · have hv := Aside0.mk (hv1.out.trans (if_pos cp))
      have cp2 : (p.2 == 0) = true := by rw [cp]; rfl
      have cp3 : (p.2 != 0) = false := by rw [cp]; rfl
      clear cp
      have hX4 := blk_al hX3 (.cells #[.slice B p.1.f0.length d, .int .i64 p.1.f1, .int .i64 p.1.f2] 131)
      have hb5 := below_alloc hb4 (.cells #[.slice B p.1.f0.length d, .int .i64 p.1.f1, .int .i64 p.1.f2] 131)
      have z3 : (w3.alloc (.cells #[.slice B p.1.f0.length d, .int .i64 p.1.f1, .int .i64 p.1.f2] 131)).heap.size = w3.heap.size + 1 := alsz
      have HF4 := Aside0.mk (Kd.FK_below HF3.out (@bl1 w3 (.cells #[.slice B p.1.f0.length d, .int .i64 p.1.f1, .int .i64 p.1.f2] 131)))
      have G6c := Aside0.mk (Kd.F_below G6b.out (@bl1 w3 (.cells #[.slice B p.1.f0.length d, .int .i64 p.1.f1, .int .i64 p.1.f2] 131)))
      go_wp2_with ((with_reducible refine gate_store (t := 131) (p := 54) (v := .tmp 53) rfl ?_); refine stB (w0 := w) (base := w.heap.size) (seg := [.slice B p.1.f0.length d, .int .i64 p.1.f1, .int .i64 p.1.f2]) (cs' := [.int .i64 x.f0.f0, .int .i64 x.f0.f1, .int .i64 x.f0.f2, .slice A3 x.f1.f0.length c3, .int .i64 x.f1.f1, .int .i64 x.f1.f2, .slice B p.1.f0.length d, .int .i64 p.1.f1, .int .i64 p.1.f2]) hX4 hb5 hs2 (h := fun w5 hX5 hb6 hg5 => ?_); (have HF5 := Aside0.mk (Kd.FK_grown HF4.out hg5 (fun k hk he => by have h2 : k = w2.heap.size := Option.some.inj he; rcases hk with h | h <;> omega))); (have G6d := Aside0.mk (Kd.F_grown G6c.out hg5 (fun k hk he => by have h2 : k = w2.heap.size := Option.some.inj he; have := hk.2; omega))); (obtain ⟨y0, y1, y2, y3, y4, y5, y6, y7, y8⟩ := bx9 hX5))
      obtain ⟨B', d', he', -, gB⟩ := k131_openF HF5.out
      have hB' : B = B' ∧ d = d' := by
        have h1 := congrArg (fun l => l[0]?) he'
        simp only [List.getElem?_cons_zero] at h1
        have h2 := Option.some.inj h1
        injection h2 with h3 h4 h5
        exact ⟨h3, h5⟩
      obtain ⟨rfl, rfl⟩ := hB'
      refine (port_with.calls (some ad) c l n ⟨x.f0, x.f1, p.1⟩ [.int .i64 x.f0.f0, .int .i64 x.f0.f1, .int .i64 x.f0.f2, .slice A3 x.f1.f0.length c3, .int .i64 x.f1.f1, .int .i64 x.f1.f2, .slice B p.1.f0.length d, .int .i64 p.1.f1, .int .i64 p.1.f2] (fun k => (ok k ∧ k < w.heap.size) ∨ w2.heap.size + 1 ≤ k) w5 (Kd.F_mono (Kd.F_below H.out hb6) (fun k hk => Or.inl hk)) (k135_mkF w5 _ ⟨x.f0, x.f1, p.1⟩ l3 (Kd.F_mono G6d.out (fun k hk => Or.inl hk)) ld gB) hnl hl4).mono ?_; rintro _ w6 ⟨v6, rfl, hN6, hb7⟩
      obtain ⟨A7, c7, rfl⟩ := Kd.N_slice hN6
      have hc7 := (Kd.N_reads' hN6).2.1
      have HN6 := Aside0.mk hN6
      have hs5 := hb6.size
      clear hN6
      go_wp2
      (try simp only [Exit.inBlock, Exit.then])
      refine bodyPost_ret (results_list (rs := [.tmp 6, .tmp 7, .tmp 8]) rfl (by simp) (.tmp (.tmp (.tmp .nil)))) rfl ?_
      exact ⟨A7, c7, by rw [hv.out]; first | rfl | simp, by rw [hv.out]; exact hc7, by rw [hv.out]; exact Kd.F_mono (Kd.N_F HN6.out) (fun k hk => hk.elim (fun h => h.1.elim (fun h => Or.inl h.1) (fun h => Or.inr (by omega))) (fun h => Or.inr (by omega))), below_step hb6 hb7⟩
    · have hv := Aside0.mk (hv1.out.trans (if_neg cp))
      have cp2 : (p.2 == 0) = false := by simpa using cp
      have cp3 : (p.2 != 0) = true := by simpa using cp
      clear cp
      go_wp2
      (try simp only [Exit.inBlock, Exit.then])
      refine bodyPost_ret (results_list (rs := [.tmp 6, .tmp 7, .tmp 8]) rfl (by simp) (.tmp (.tmp (.tmp .nil)))) rfl ?_
      exact ⟨some ad, c, by rw [hv.out]; rfl, by rw [hv.out]; exact hlc, by rw [hv.out]; exact Kd.F_mono (Kd.F_below (Kd.F_below HK.out hb4) bl1) (fun k hk => Or.inl hk), below_alloc hb4 _⟩
  · have hv := Aside0.mk (hv0.out.trans (if_neg cf))
    have cf2 : (x.f0.f1 == tt) = false := by simpa using cf
    have cf3 : (x.f0.f1 != tt) = true := by simpa using cf
    clear cf
    go_wp2
    (try simp only [Exit.inBlock, Exit.then])
    refine bodyPost_ret (results_list (rs := [.tmp 6, .tmp 7, .tmp 8]) rfl (by simp) (.tmp (.tmp (.tmp .nil)))) rfl ?_
    exact ⟨some ad, c, by rw [hv.out]; rfl, by rw [hv.out]; exact hlc, by rw [hv.out]; exact Kd.F_mono (Kd.F_below HK.out hb2) (fun k hk => Or.inl hk), hb2⟩
def port_Deliver.T10 : Bool × List (List Nat × List Nat) := (true, [([], []), ([], []), ([1], [1]), ([], []), ([2, 3], [2, 3]), ([0, 1, 2], []), ([5, 0, 4, 0, 1, 2], [0, 5]), ([0, 1, 2, 3, 4, 5, 6], []), ([7, 4, 6, 0, 1, 2, 3, 4, 5, 6], [4, 7])])
def port_Deliver.B10 : List Nat := [0, 0, 2, 0, 14, 7, 63, 127, 255]
theorem port_Deliver.tab10 : rtab .any (opsOf Tryz.f35 10) = port_Deliver.T10 := by kernel_rfl
theorem port_Deliver.bits10 : waitsOk port_Deliver.T10.2 port_Deliver.B10 = true := by kernel_rfl
def dlv1 (x : S135) : S135 := ⟨x.f0, (popR x.f1).2.1, putR x.f2 (popR x.f1).1⟩
def dlv : Nat → S135 → S135
  | 0, x => x
  | k + 1, x => dlv k (dlv1 x)
def dlvX (x : S135) : S135 := dlv x.f1.f2.toNat x
def deliverL (l : List S135) : List S135 := l.map dlvX
theorem lineR_dlv1 {x : S135} (h : lineR x = true) : lineR (dlv1 x) = true := by
  obtain ⟨h0, h1, h2, h3, h4⟩ := lineR_iff.1 h
  have p1 := ringR_pop h1
  have p2 := ringR_put (popR x.f1).1 h2
  exact lineR_iff.2 ⟨h0, p1.1, p2.1, by show ((popR x.f1).2.1.f0.length : Int) = _; rw [p1.2]; exact h3, by show ((putR x.f2 _).f0.length : Int) = _; rw [p2.2]; exact h4⟩
theorem lineR_dlv : ∀ (k : Nat) {x : S135}, lineR x = true → lineR (dlv k x) = true := by
  intro k
  induction k with
  | zero => intro x h; exact h
  | succ k ih => intro x h; exact ih (lineR_dlv1 h)
def mapTo (l : List S135) (i : Nat) : List S135 := (l.take i).map dlvX ++ l.drop i
theorem mapTo_len (l : List S135) (i : Nat) (hi : i ≤ l.length) : (mapTo l i).length = l.length := by
  unfold mapTo; rw [List.length_append, List.length_map, List.length_take, List.length_drop]; omega
theorem mapTo_set (l : List S135) (i : Nat) (hi : i < l.length) : (mapTo l i).set i (dlvX l[i]) = mapTo l (i + 1) := by
  unfold mapTo
  rw [List.take_succ_eq_append_getElem hi, List.map_append, List.append_assoc, List.drop_eq_getElem_cons hi, List.set_append_right _ _ (by rw [List.length_map, List.length_take]; omega)]
  congr 1
  rw [List.length_map, List.length_take, Nat.min_eq_left (by omega), Nat.sub_self]
  rfl
theorem port_Deliver.calls (A : Option Addr) (c : Nat) (l : List S135) (ok : Nat → Prop) (w : World) (h : Kd.F k135 w ok A l.length l) (hlc : l.length ≤ c) (hR : portR l = true) :
    Calls Tryz.prog 35 #[.slice A l.length c] w fun e w' => ∃ A' c', e = .returned (.slice A' l.length c') ∧ l.length ≤ c' ∧ Kd.F k135 w' (nw ok w) A' l.length (deliverL l) ∧ Below w.heap.size w w' := by
  have hu := Tryz.underlying135
  have hu2 := Tryz.underlying131
  have H := Aside0.mk (Kd.F_bound h)
  have HK := Aside0.mk h
  have HR := Aside0.mk hR
  obtain ⟨hlr, hl4⟩ := portR_iff.1 hR
  have HL := Aside0.mk hlr
  clear h hR hlr
  go_enter Tryz.func35, Tryz.ntmps35
  go_wp2_with fail
  refine (port_Right.calls A c l w (Kd.F_now HK.out) HR.out).mono ?_; rintro _ w2 ⟨rfl, hb2⟩
  go_wp2
  go_loopg [3, 16] l.length (fun k v3 v16 wr => ∃ (i : Nat) (A' : Option Addr) (c' : Nat), i + k = l.length ∧ v16 = .int .i64 i ∧ v3 = .slice A' l.length c' ∧ l.length ≤ c' ∧ Kd.F k135 wr (nw ok w) A' l.length (mapTo l i) ∧ Below w.heap.size w wr)
  case atStart => exact ⟨0, A, c, by omega, by go_num, rfl, hlc, Kd.F_mono (Kd.F_below HK.out hb2) (fun k hk => Or.inl hk), hb2⟩
  case round =>
    clear hb2
    obtain ⟨i, Ao, co, hi, rfl, rfl, hco, hFo, hbr⟩ := hrel
    have HFO := Aside0.mk hFo
    clear hFo
    by_cases ci : i < l.length
    · obtain ⟨ad, A3, c3, A6, c6, x, rfl, hx, e0, e1, e2, e3, e4, e5, e6, e7, e8, l3, g3, l6, g6⟩ := el135F (Kd.F_below H.out hbr) i ci
      have hlx := (show lineR x = true by rw [← hx.out]; exact HL.out _ (List.getElem_mem ci))
      have HLX := Aside0.mk hlx
      have hmb : 0 ≤ x.f1.f2 ∧ x.f1.f2 ≤ 4 := by have h1 := lineR_iff.1 hlx; have h2 := ringR_iff.1 h1.2.1; have h3 := portM_iff.1 h1.1; omega
      obtain ⟨m, hm⟩ : ∃ m : Nat, x.f1.f2 = m := ⟨x.f1.f2.toNat, by omega⟩
      have HM := Aside0.mk hm
      have hms := Aside0.mk (mapTo_set l i ci)
      rw [hx.out] at hms
      have hsub : ∃ W0, W0 = wr := ⟨_, rfl⟩
      obtain ⟨W0, rfl⟩ := hsub
      have hdx := Aside0.mk (show dlvX x = dlv m x by unfold dlvX; rw [hm, Int.toNat_natCast])
      have hm4 : m ≤ 4 := by omega
      clear hm
      have hX0 := blk_new W0 (.cells #[.int .i64 x.f0.f0, .int .i64 x.f0.f1, .int .i64 x.f0.f2, .slice A3 x.f1.f0.length c3, .int .i64 x.f1.f1, .int .i64 x.f1.f2, .slice A6 x.f2.f0.length c6, .int .i64 x.f2.f1, .int .i64 x.f2.f2] 135)
      have hbX := below_alloc hbr (.cells #[.int .i64 x.f0.f0, .int .i64 x.f0.f1, .int .i64 x.f0.f2, .slice A3 x.f1.f0.length c3, .int .i64 x.f1.f1, .int .i64 x.f1.f2, .slice A6 x.f2.f0.length c6, .int .i64 x.f2.f1, .int .i64 x.f2.f2] 135)
      have zX : (W0.alloc (.cells #[.int .i64 x.f0.f0, .int .i64 x.f0.f1, .int .i64 x.f0.f2, .slice A3 x.f1.f0.length c3, .int .i64 x.f1.f1, .int .i64 x.f1.f2, .slice A6 x.f2.f0.length c6, .int .i64 x.f2.f1, .int .i64 x.f2.f2] 135)).heap.size = W0.heap.size + 1 := alsz
      have G3 := Aside0.mk (Kd.F_mono (ok' := fun k => (ok k ∧ k < w.heap.size) ∨ W0.heap.size + 1 ≤ k) (Kd.F_below g3 (@bl1 W0 (.cells #[.int .i64 x.f0.f0, .int .i64 x.f0.f1, .int .i64 x.f0.f2, .slice A3 x.f1.f0.length c3, .int .i64 x.f1.f1, .int .i64 x.f1.f2, .slice A6 x.f2.f0.length c6, .int .i64 x.f2.f1, .int .i64 x.f2.f2] 135))) (fun k hk => Or.inl hk))
      have G6 := Aside0.mk (Kd.F_mono (ok' := fun k => (ok k ∧ k < w.heap.size) ∨ W0.heap.size + 1 ≤ k) (Kd.F_below g6 (@bl1 W0 (.cells #[.int .i64 x.f0.f0, .int .i64 x.f0.f1, .int .i64 x.f0.f2, .slice A3 x.f1.f0.length c3, .int .i64 x.f1.f1, .int .i64 x.f1.f2, .slice A6 x.f2.f0.length c6, .int .i64 x.f2.f1, .int .i64 x.f2.f2] 135))) (fun k hk => Or.inl hk))
      have HFO2 := Aside0.mk (Kd.F_bound HFO.out)
      have hsr := hbr.size
      clear hlx g3 g6
      go_wp2
      have hbX2 := @bl1 W0 (.cells #[.int .i64 x.f0.f0, .int .i64 x.f0.f1, .int .i64 x.f0.f2, .slice A3 x.f1.f0.length c3, .int .i64 x.f1.f1, .int .i64 x.f1.f2, .slice A6 x.f2.f0.length c6, .int .i64 x.f2.f1, .int .i64 x.f2.f2] 135)
      have HOUT := Aside0.mk (fun W' (hb : Below W0.heap.size W0 W') => Kd.F_below HFO.out hb)
      generalize hgx : W0.heap.size = gx at hX0 zX G3 G6 hbX2 hsr HOUT ⊢
      clear e0 e1 e2 e3 e4 e5 e6 e7 e8
      go_loopg [24] m (fun k v24 wi => ∃ (j : Nat) (y : S135) (B1 B2 : Option Addr) (d1 d2 : Nat), j + k = m ∧ v24 = .int .i64 j ∧ Aside0 (dlv k y = dlvX x) ∧ Aside0 (lineR y = true) ∧ wi.heap[gx]? = some (.cells #[.int .i64 y.f0.f0, .int .i64 y.f0.f1, .int .i64 y.f0.f2, .slice B1 y.f1.f0.length d1, .int .i64 y.f1.f1, .int .i64 y.f1.f2, .slice B2 y.f2.f0.length d2, .int .i64 y.f2.f1, .int .i64 y.f2.f2] 135 (0, 0)) ∧ y.f1.f0.length ≤ d1 ∧ Kd.F (Kd.int .i64) wi (fun k => (ok k ∧ k < w.heap.size) ∨ gx + 1 ≤ k) B1 y.f1.f0.length y.f1.f0 ∧ y.f2.f0.length ≤ d2 ∧ Kd.F (Kd.int .i64) wi (fun k => (ok k ∧ k < w.heap.size) ∨ gx + 1 ≤ k) B2 y.f2.f0.length y.f2.f0 ∧ Below w.heap.size w wi ∧ Below gx W0 wi)
      case atStart => exact ⟨0, x, A3, A6, c3, c6, by omega, by go_num, ⟨hdx.out.symm⟩, HLX, hX0, l3, G3.out, l6, G6.out, hbX, hbX2⟩
      case round =>
        clear hX0 hbX G3 G6 hbX2 zX
        obtain ⟨j, y, B1, B2, d1, d2, hj, rfl, hdl, hly, hX, k1, f1, k2, f2, hbi, hbg⟩ := hrel
        have F1 := Aside0.mk f1
        have F2 := Aside0.mk f2
        have hgl := blk_lt hX
        have hyl := lineR_iff.1 hly.out
        have hyp := portM_iff.1 hyl.1
        have HR1 := Aside0.mk hyl.2.1
        have HR2 := Aside0.mk hyl.2.2.1
        have q1 : y.f1.f0.length ≤ 4 := by omega
        have q2 : y.f2.f0.length ≤ 4 := by omega
        clear f1 f2 hyl hyp
        obtain _ | k := gk
        · have cj : ¬ (j : Int) < x.f1.f2 := by have := HM.out; omega
          have hdy : y = dlvX x := hdl.out
          have hms2 := Aside0.mk (show (mapTo l i).set i y = mapTo l (i + 1) by rw [hdy]; exact hms.out)
          clear hdy
          obtain ⟨y0, y1, y2, y3, y4, y5, y6, y7, y8⟩ := bx9 hX
          have hml := mapTo_len l i (by omega)
          go_wp2_with fail
          have hF7 := HOUT.out wr hbg
          rw [← hml] at hF7
          have hcall := port_with.calls Ao co (mapTo l i) i y [.int .i64 y.f0.f0, .int .i64 y.f0.f1, .int .i64 y.f0.f2, .slice B1 y.f1.f0.length d1, .int .i64 y.f1.f1, .int .i64 y.f1.f2, .slice B2 y.f2.f0.length d2, .int .i64 y.f2.f1, .int .i64 y.f2.f2] (nw ok w) wr hF7 (k135_mkF wr _ y k1 (Kd.F_mono F1.out (fun k hk => hk.elim (fun h => Or.inl h.1) (fun h => Or.inr (by omega)))) k2 (Kd.F_mono F2.out (fun k hk => hk.elim (fun h => Or.inl h.1) (fun h => Or.inr (by omega))))) (by omega) (by omega)
          rw [hml] at hcall
          refine hcall.mono ?_; rintro _ w6 ⟨v6, rfl, hN6, hb6⟩
          have hln : ((mapTo l i).set i y).length = l.length := by rw [List.length_set]; exact hml
          obtain ⟨A7, c7, rfl⟩ := Kd.N_slice hN6
          rw [hln] at hN6 ⊢
          have hc7 := (Kd.N_reads' hN6).2.1
          have hN7 := Kd.F_mono (ok' := nw ok w) (Kd.N_F hN6) (fun k hk => hk.elim (fun h => h.1) (fun h => Or.inr (by have := hbi.size; omega)))
          rw [hms2.out] at hN7
          have HN7 := Aside0.mk hN7
          have hb8 := below_step hbi hb6
          clear hcall hN6 hN7 hF7
          go_wp2
          go_roundg (l.length - i - 1)
          case measure => omega
          case rel => exact ⟨i + 1, A7, c7, by omega, by go_num, rfl, hc7, HN7.out, hb8⟩
        · have cj : (j : Int) < x.f1.f2 := by have := HM.out; omega
          obtain ⟨y0, y1, y2, y3, y4, y5, y6, y7, y8⟩ := bx9 hX
          go_wp2_with fail
          refine (ring_Pop.calls y.f1 [.slice B1 y.f1.f0.length d1, .int .i64 y.f1.f1, .int .i64 y.f1.f2] (fun k => (ok k ∧ k < w.heap.size) ∨ gx + 1 ≤ k) wr (k131_mkF wr _ y.f1 k1 F1.out) HR1.out q1).mono ?_; rintro _ w3 ⟨cs3, rfl, hF3, hb3⟩
          have hs3 := hb3.size
          have hX3 := blk_below hX hb3
          have hbi3 := below_step hbi hb3
          have hbg3 := Below.trans hbg (Below.mono hb3 (by omega))
          have hst := Aside0.mk (show dlv1 y = ⟨y.f0, (popR y.f1).2.1, putR y.f2 (popR y.f1).1⟩ from rfl)
          generalize popR y.f1 = pp at hF3 hst ⊢
          obtain ⟨vv, p⟩ := pp
          dsimp only at hF3 hst ⊢
          have HF3 := Aside0.mk (Kd.FK_mono (ok' := fun k => (ok k ∧ k < w.heap.size) ∨ gx + 1 ≤ k) hF3 (fun k hk => hk.elim id (fun h => Or.inr (by omega))))
          obtain ⟨B3, d3, rfl, ld, -⟩ := k131_openF hF3
          clear hF3 y0 y1 y2 y3 y4 y5 y6 y7 y8
          have hX4 := blk_al hX3 (.cells #[.slice B3 p.1.f0.length d3, .int .i64 p.1.f1, .int .i64 p.1.f2] 131)
          have hT4 := blk_new w3 (.cells #[.slice B3 p.1.f0.length d3, .int .i64 p.1.f1, .int .i64 p.1.f2] 131)
          have hbi4 := below_alloc hbi3 (.cells #[.slice B3 p.1.f0.length d3, .int .i64 p.1.f1, .int .i64 p.1.f2] 131)
          have hbg4 := Below.trans hbg3 (Below.mono (@bl1 w3 (.cells #[.slice B3 p.1.f0.length d3, .int .i64 p.1.f1, .int .i64 p.1.f2] 131)) (by omega))
          have z4 : (w3.alloc (.cells #[.slice B3 p.1.f0.length d3, .int .i64 p.1.f1, .int .i64 p.1.f2] 131)).heap.size = w3.heap.size + 1 := alsz
          have F2b := Aside0.mk (Kd.F_below (Kd.F_below F2.out hb3) (@bl1 w3 (.cells #[.slice B3 p.1.f0.length d3, .int .i64 p.1.f1, .int .i64 p.1.f2] 131)))
          have HF4 := Aside0.mk (Kd.FK_below HF3.out (@bl1 w3 (.cells #[.slice B3 p.1.f0.length d3, .int .i64 p.1.f1, .int .i64 p.1.f2] 131)))
          obtain ⟨t0, t1, t2⟩ := bx3 hT4
          obtain ⟨y0, y1, y2, y3, y4, y5, y6, y7, y8⟩ := bx9 hX4
          go_wp2
          generalize w3.alloc (.cells #[.slice B3 p.1.f0.length d3, .int .i64 p.1.f1, .int .i64 p.1.f2] 131) = w4 at hX4 hT4 hbi4 hbg4 z4 F2b HF4 t0 t1 t2 y0 y1 y2 y3 y4 y5 y6 y7 y8 ⊢
          refine st_ 9 (fun w' => Below w4.heap.size w4 w' ∧ w'.cell? (⟨w3.heap.size, 0, none⟩) = some (.slice B3 p.1.f0.length d3) ∧ w'.cell? (⟨w3.heap.size, 1, none⟩) = some (.int .i64 p.1.f1) ∧ w'.cell? (⟨w3.heap.size, 2, none⟩) = some (.int .i64 p.1.f2) ∧ w'.cell? (⟨gx, 6, none⟩) = some (.slice B2 y.f2.f0.length d2) ∧ w'.cell? (⟨gx, 7, none⟩) = some (.int .i64 y.f2.f1) ∧ w'.cell? (⟨gx, 8, none⟩) = some (.int .i64 y.f2.f2)) [6,8] port_Deliver.tab10 port_Deliver.bits10 ⟨below_drew1 bl0, t0, t1, t2, y6, y7, y8⟩ (h := fun HT HW hHeld => ?_)
          repeat (first | refine pn_ HT (h := ?_) | refine tn_ HT HW hHeld (h := ?_) | refine zn_ HT (h := ?_))
          refine on_ HT (h := fun K hK => ?_)
          refine cn_ ((ring_Put.calls y.f2 [.slice B2 y.f2.f0.length d2, .int .i64 y.f2.f1, .int .i64 y.f2.f2] vv (fun k => (ok k ∧ k < w.heap.size) ∨ gx + 1 ≤ k) w4.drew (k131_mkF _ _ y.f2 k2 (Kd.F_below F2b.out (hHeld.1))) HR2.out q2).mono (fun e w' ⟨cs', he, h1, h2⟩ => ⟨_, he, cs', rfl, h1, h2⟩)) (R := fun v w' => ∃ cs' : List Value, v = .agg cs'.toArray ∧ Kd.FK k131 w' (nw (fun k => (ok k ∧ k < w.heap.size) ∨ gx + 1 ≤ k) w4.drew) (putR y.f2 vv) cs' ∧ Below w4.drew.heap.size w4.drew w') (h := fun v5 w5 hv5 => ?_)
          obtain ⟨cs5, rfl, hF5, hb3⟩ := hv5
          have hw4 : w4.drew.heap.size = w4.heap.size := rfl
          have hst2 := Aside0.mk (show dlv1 y = ⟨y.f0, p.1, putR y.f2 vv⟩ from hst.out)
          generalize putR y.f2 vv = r at hF5 hst2
          have HF5 := Aside0.mk (Kd.FK_mono (ok' := fun k => (ok k ∧ k < w.heap.size) ∨ gx + 1 ≤ k) hF5 (fun k hk => hk.elim id (fun h => Or.inr (by omega))))
          obtain ⟨B4, d4, rfl, le, -⟩ := k131_openF hF5
          clear hF5
          refine hK.out _ _ ⟨below_step (hHeld.1) hb3, be_cell hb3 (hHeld.2.1), be_cell hb3 (hHeld.2.2.1), be_cell hb3 (hHeld.2.2.2.1), be_cell hb3 (hHeld.2.2.2.2.1), be_cell hb3 (hHeld.2.2.2.2.2.1), be_cell hb3 (hHeld.2.2.2.2.2.2)⟩ (fun hHeld => ?_)
          refine nm_ (h := ?_)
          have hb45 : Below w4.heap.size w4 w5 := (hHeld.1)
          repeat (first | refine pn_ HT (h := ?_) | refine tn_ HT HW hHeld (h := ?_) | refine zn_ HT (h := ?_))
          have hX5 := blk_below hX4 hb45
          have hbi5 := Below.trans hbi4 (Below.mono hb45 hbi4.size)
          have hbg5 := Below.trans hbg4 (Below.mono hb45 (by omega))
          have hs45 := hb45.size
          refine ln_ HT (h := fun K hK => ?_)
          refine stB_step (w0 := w) (base := w.heap.size) (seg := [.slice B3 p.1.f0.length d3, .int .i64 p.1.f1, .int .i64 p.1.f2]) (cs' := [.int .i64 y.f0.f0, .int .i64 y.f0.f1, .int .i64 y.f0.f2, .slice B3 p.1.f0.length d3, .int .i64 p.1.f1, .int .i64 p.1.f2, .slice B2 y.f2.f0.length d2, .int .i64 y.f2.f1, .int .i64 y.f2.f2]) hX5 hbi5 (by omega) (h := fun w6 hX6 hb6 hg6 => ?_)
          have hbg6 := Below.grown hbg5 hg6 (by omega) (fun k hk => by have := Option.some.inj hk; omega)
          refine hK.out _ _ ?_
          repeat (first | refine pn_ HT (h := ?_) | refine zn_ HT (h := ?_))
          refine ln_ HT (h := fun K hK => ?_)
          refine stB_step (w0 := w) (base := w.heap.size) (seg := [.slice B4 r.f0.length d4, .int .i64 r.f1, .int .i64 r.f2]) (cs' := [.int .i64 y.f0.f0, .int .i64 y.f0.f1, .int .i64 y.f0.f2, .slice B3 p.1.f0.length d3, .int .i64 p.1.f1, .int .i64 p.1.f2, .slice B4 r.f0.length d4, .int .i64 r.f1, .int .i64 r.f2]) hX6 hb6 (by omega) (h := fun w7 hX7 hb7 hg7 => ?_)
          have hbg7 := Below.grown hbg6 hg7 (by have := hg6.size; omega) (fun k hk => by have := Option.some.inj hk; omega)
          refine hK.out _ _ ?_
          repeat (first | refine pn_ HT (h := ?_) | refine zn_ HT (h := ?_))
          refine dn_ HT (h := ?_)
          have HB3 := Aside0.mk (Kd.FK_grown (Kd.FK_grown (Kd.FK_below HF4.out hb45) hg6 (fun k hk he => by have h2 : k = gx := Option.some.inj he; rcases hk with h | h <;> omega)) hg7 (fun k hk he => by have h2 : k = gx := Option.some.inj he; rcases hk with h | h <;> omega))
          have HB4 := Aside0.mk (Kd.FK_grown (Kd.FK_grown HF5.out hg6 (fun k hk he => by have h2 : k = gx := Option.some.inj he; rcases hk with h | h <;> omega)) hg7 (fun k hk he => by have h2 : k = gx := Option.some.inj he; rcases hk with h | h <;> omega))
          clear HT HW hHeld
          obtain ⟨E3, u3, e3, m3, n3⟩ := k131_openF HB3.out
          obtain ⟨E4, u4, e4, m4, n4⟩ := k131_openF HB4.out
          have h31 : E3 = B3 ∧ u3 = d3 := by
            have h1 := Option.some.inj (show some (Value.slice B3 p.1.f0.length d3) = some (Value.slice E3 p.1.f0.length u3) from congrArg (fun l => l[0]?) e3)
            injection h1 with h3 h4 h5
            exact ⟨h3.symm, h5.symm⟩
          have h41 : E4 = B4 ∧ u4 = d4 := by
            have h1 := Option.some.inj (show some (Value.slice B4 r.f0.length d4) = some (Value.slice E4 r.f0.length u4) from congrArg (fun l => l[0]?) e4)
            injection h1 with h3 h4 h5
            exact ⟨h3.symm, h5.symm⟩
          rw [h31.1] at n3
          rw [h41.1] at n4
          have hly2 := Aside0.mk (lineR_dlv1 hly.out)
          have hdl2 := Aside0.mk (show dlv k (dlv1 y) = dlvX x from hdl.out)
          rw [hst2.out] at hly2 hdl2
          have HN3 := Aside0.mk n3
          have HN4 := Aside0.mk n4
          clear n3 n4 e3 e4 h31 h41 t0 t1 t2 y0 y1 y2 y3 y4 y5 y6 y7 y8
          go_wp2
          go_roundg k
          case measure => omega
          case rel => exact ⟨j + 1, ⟨y.f0, p.1, r⟩, B3, B4, d3, d4, by omega, by go_num, hdl2, hly2, hX7, ld, HN3.out, le, HN4.out, hb7, hbg7⟩
    · have : i = l.length := by omega
      subst this
      have hFf := HFO.out
      have hml : mapTo l l.length = deliverL l := by unfold mapTo deliverL; rw [List.take_length, List.drop_length, List.append_nil]
      rw [hml] at hFf
      have HFF := Aside0.mk hFf
      clear hFf
      go_wp2
      go_ret
      exact ⟨Ao, co, rfl, hco, HFF.out, hbr⟩
def mkL (p : S91) : S135 := ⟨p, newR p.f2, newR p.f2⟩
def openL (ps : List S91) : List S135 × Int := if ps.all portM && decide (ps.length ≤ 4) then (ps.map mkL, 0) else ([], 1)
theorem port_Open.calls (A : Option Addr) (c : Nat) (ps : List S91) (w : World) (h : Kd.C k91 w A ps.length ps) (hl : ps.length ≤ 1000) :
    Calls Tryz.prog 32 #[.slice A ps.length c] w fun e w' => ∃ A' c', e = .returned (.tuple #[.slice A' (openL ps).1.length c', .int .i64 (openL ps).2]) ∧ (openL ps).1.length ≤ c' ∧ Kd.F k135 w' (fun k => w.heap.size ≤ k) A' (openL ps).1.length (openL ps).1 ∧ Below w.heap.size w w' := by
  have hu := Tryz.underlying135
  have hu2 := Tryz.underlying131
  have hu3 := Tryz.underlying91
  have H := Aside0.mk h
  clear h
  go_enter Tryz.func32, Tryz.ntmps32
  go_wp2
  go_loopg [4, 13] ps.length (fun k v4 v13 wr => ∃ i : Nat, i + k = ps.length ∧ v13 = .int .i64 i ∧ Kd.N k135 135 wr w.heap.size (fun k => w.heap.size ≤ k) v4 ((ps.take i).map mkL) ∧ Aside0 ((ps.take i).all portM = true) ∧ Below w.heap.size w wr)
  case atStart => exact ⟨0, by omega, by go_num, Kd.N_nil _ _ _ _ _, ⟨rfl⟩, bl0⟩
  case round =>
    obtain ⟨i, hi, rfl, hN, hal, hbr⟩ := hrel
    have HN := Aside0.mk hN
    clear hN
    by_cases ci : i < ps.length
    · obtain ⟨ad, p, rfl, hp, e0, e1, e2⟩ := el91 (Kd.C_below H.out hbr) i ci
      have hsn := Aside0.mk (show (ps.take (i + 1)).all portM = portM p by rw [all_take _ ps i ci hal.out, hp.out])
      have hmk := Aside0.mk (show (ps.take (i + 1)).map mkL = (ps.take i).map mkL ++ [mkL p] by rw [List.take_succ_eq_append_getElem ci, List.map_append, hp.out]; rfl)
      have hml : ((ps.take i).map mkL).length ≤ 1000 := by rw [List.length_map, List.length_take]; omega
      have hX := blk_new wr (.cells #[.int .i64 p.f0, .int .i64 p.f1, .int .i64 p.f2] 91)
      have hb1 := below_alloc hbr (.cells #[.int .i64 p.f0, .int .i64 p.f1, .int .i64 p.f2] 91)
      have z1 : (wr.alloc (.cells #[.int .i64 p.f0, .int .i64 p.f1, .int .i64 p.f2] 91)).heap.size = wr.heap.size + 1 := alsz
      have HN1 := Aside0.mk (Kd.N_alloc HN.out (.cells #[.int .i64 p.f0, .int .i64 p.f1, .int .i64 p.f2] 91))
      have hlt := Kd.N_lt HN.out
      have hsr := hbr.size
      go_wp2_with fail
      refine (port_may.calls p _).mono ?_; rintro _ w2 ⟨rfl, hb2⟩
      have hX2 := blk_below hX hb2
      have hb3 := below_step hb1 hb2
      have HN2 := Aside0.mk (Kd.N_below HN1.out hb2)
      have hs2 := hb2.size
      rw [z1] at hs2
      clear e0 e1 e2 hX hb1 hb2 HN1 HN
      generalize wr.heap.size = gx at hX2 hlt z1 hs2 hsr ⊢
      cases hm : portM p with
      | false =>
        have hv := Aside0.mk (show openL ps = ([], 1) by
          have h1 : ps.all portM = false := by rw [List.all_eq_false]; exact ⟨p, by rw [← hp.out]; exact List.getElem_mem ci, by rw [hm]; simp⟩
          unfold openL; rw [h1]; rfl)
        clear hm
        go_wp2
        go_ret2
        exact ⟨none, 0, by rw [hv.out]; rfl, by rw [hv.out]; exact Nat.le_refl 0, by rw [hv.out]; exact Kd.F_nil _ _ _, hb3⟩
      | true =>
        have hpm := portM_iff.1 hm
        have hal2 := Aside0.mk (hsn.out.trans hm)
        clear hm
        obtain ⟨y0, y1, y2⟩ := bx3 hX2
        go_wp2_with fail
        refine (ring_New.calls p.f2 w2 (by omega) (by omega)).mono ?_; rintro _ w3 ⟨csA, rfl, hFA, hb4⟩
        obtain ⟨A1, c1, rfl, lA, gA⟩ := k131_openF hFA
        have GA := Aside0.mk gA
        have hX3 := blk_below hX2 hb4
        have hb5 := below_step hb3 hb4
        have hs3 := hb4.size
        have HN3 := Aside0.mk (Kd.N_below HN2.out hb4)
        have hT3 := blk_new w3 (.cells #[.slice A1 (newR p.f2).f0.length c1, .int .i64 (newR p.f2).f1, .int .i64 (newR p.f2).f2] 131)
        have hX4 := blk_al hX3 (.cells #[.slice A1 (newR p.f2).f0.length c1, .int .i64 (newR p.f2).f1, .int .i64 (newR p.f2).f2] 131)
        have hb6 := below_alloc hb5 (.cells #[.slice A1 (newR p.f2).f0.length c1, .int .i64 (newR p.f2).f1, .int .i64 (newR p.f2).f2] 131)
        have z3 : (w3.alloc (.cells #[.slice A1 (newR p.f2).f0.length c1, .int .i64 (newR p.f2).f1, .int .i64 (newR p.f2).f2] 131)).heap.size = w3.heap.size + 1 := alsz
        clear y0 y1 y2 hFA gA
        obtain ⟨y0, y1, y2⟩ := bx3 hX4
        go_wp2_with fail
        refine (ring_New.calls p.f2 _ (by omega) (by omega)).mono ?_; rintro _ w5 ⟨csB, rfl, hFB, hb7⟩
        obtain ⟨A2, c2, rfl, lB, gB⟩ := k131_openF hFB
        have hX5 := blk_al (blk_below hX4 hb7) (.cells #[.slice A2 (newR p.f2).f0.length c2, .int .i64 (newR p.f2).f1, .int .i64 (newR p.f2).f2] 131)
        have hT5 := blk_al (blk_below hT3 hb7) (.cells #[.slice A2 (newR p.f2).f0.length c2, .int .i64 (newR p.f2).f1, .int .i64 (newR p.f2).f2] 131)
        have hU5 := blk_new w5 (.cells #[.slice A2 (newR p.f2).f0.length c2, .int .i64 (newR p.f2).f1, .int .i64 (newR p.f2).f2] 131)
        have hb8 := below_alloc (below_step hb6 hb7) (.cells #[.slice A2 (newR p.f2).f0.length c2, .int .i64 (newR p.f2).f1, .int .i64 (newR p.f2).f2] 131)
        have hs5 := hb7.size
        have z5 : (w5.alloc (.cells #[.slice A2 (newR p.f2).f0.length c2, .int .i64 (newR p.f2).f1, .int .i64 (newR p.f2).f2] 131)).heap.size = w5.heap.size + 1 := alsz
        have hbq : Below w3.heap.size w3 (w5.alloc (.cells #[.slice A2 (newR p.f2).f0.length c2, .int .i64 (newR p.f2).f1, .int .i64 (newR p.f2).f2] 131)) := below_alloc (below_step (@bl1 w3 (.cells #[.slice A1 (newR p.f2).f0.length c1, .int .i64 (newR p.f2).f1, .int .i64 (newR p.f2).f2] 131)) hb7) (.cells #[.slice A2 (newR p.f2).f0.length c2, .int .i64 (newR p.f2).f1, .int .i64 (newR p.f2).f2] 131)
        have GA5 := Aside0.mk (Kd.F_mono (ok' := fun k => gx + 1 ≤ k) (Kd.F_below GA.out hbq) (fun k hk => by omega))
        have GB5 := Aside0.mk (Kd.F_mono (ok' := fun k => gx + 1 ≤ k) (Kd.F_below gB (@bl1 w5 (.cells #[.slice A2 (newR p.f2).f0.length c2, .int .i64 (newR p.f2).f1, .int .i64 (newR p.f2).f2] 131))) (fun k hk => by rw [z3] at hk; omega))
        have HN5 := Aside0.mk (Kd.N_below HN3.out hbq)
        have hs6 := hb8.size
        clear y0 y1 y2 hFB gB
        obtain ⟨y0, y1, y2⟩ := bx3 hX5
        obtain ⟨t0, t1, t2⟩ := bx3 hT5
        obtain ⟨u0, u1, u2⟩ := bx3 hU5
        go_wp2_with ((with_reducible refine gate_builtin (b := .append) (xs := #[.tmp 32, .tmp 37]) rfl ?_); at_builtin; refine apN row135 (w0 := w) (cs := [.int .i64 p.f0, .int .i64 p.f1, .int .i64 p.f2, .slice A1 (newR p.f2).f0.length c1, .int .i64 (newR p.f2).f1, .int .i64 (newR p.f2).f2, .slice A2 (newR p.f2).f0.length c2, .int .i64 (newR p.f2).f1, .int .i64 (newR p.f2).f2]) (p := mkL p) (okp := fun k => gx + 1 ≤ k) HN5.out (k135_mkF _ _ (mkL p) lA GA5.out lB GB5.out) (fun k hk => ⟨by omega, fun he => by have := hlt k he.symm; omega⟩) (fun k hk => by omega) hb8 hs6 (by omega) (h := fun v7 w7 hN7 hb9 hg7 hat7 => ?_))
        go_roundg (ps.length - i - 1)
        case measure => omega
        case rel => exact ⟨i + 1, by omega, by go_num, by rw [hmk.out]; exact hN7, hal2, hb9⟩
    · have : i = ps.length := by omega
      subst this
      have hN := HN.out
      have ha := hal.out
      rw [List.take_length] at hN ha
      obtain ⟨A7, c7, rfl⟩ := Kd.N_slice hN
      have hc7 := (Kd.N_reads' hN).2.1
      have hln : (ps.map mkL).length = ps.length := List.length_map _
      have HN7 := Aside0.mk hN
      clear hN HN
      rw [hln] at hc7 ⊢
      by_cases c4 : ps.length ≤ 4
      · have hv := Aside0.mk (show openL ps = (ps.map mkL, 0) by unfold openL; rw [ha, decide_eq_true c4]; rfl)
        have c5 : (ps.length : Int) ≤ 4 := by omega
        clear ha
        go_wp2
        go_ret2
        exact ⟨A7, c7, by rw [hv.out]; simp only [hln]; rfl, by rw [hv.out]; simp only [hln]; exact hc7, by rw [hv.out]; exact Kd.N_F HN7.out, hbr⟩
      · have hv := Aside0.mk (show openL ps = ([], 1) by unfold openL; rw [decide_eq_false c4, Bool.and_false]; rfl)
        have c5 : ¬ (ps.length : Int) ≤ 4 := by omega
        clear ha
        go_wp2
        go_ret2
        exact ⟨none, 0, by rw [hv.out]; rfl, by rw [hv.out]; exact Nat.le_refl 0, by rw [hv.out]; exact Kd.F_nil _ _ _, hbr⟩
end Go.Proofs.YtmngaagojkihbaaGreat.FTop
