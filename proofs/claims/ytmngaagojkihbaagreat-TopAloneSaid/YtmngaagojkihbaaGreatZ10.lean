/- Contracts of functions that the statement TopAlone reaches, and plain lemmas. No condition. -/
import Derived.Test.YtmngaagojkihbaaGreatZ09
namespace Go.Proofs.YtmngaagojkihbaaGreat.FTop
open Go.RowKit Go.Proofs.YtmngaagojkihbaaGreatW.PrintWords Go.Proofs.YtmngaagojkihbaaGreatW.PrintLast Go.Proofs.YtmngaagojkihbaaGreatW.PrintMore
attribute [local go_sem] max2_int min2_int max_two min_two
set_option linter.unusedVariables false
set_option linter.unusedSimpArgs false
set_option maxHeartbeats 8000000
set_option maxRecDepth 100000
section
variable {base : Nat} {ops : Array Oper} {rest : List Oper} {o : Oper} {a : Act} {Q : Exit → Act → World → Prop} {w0 W : World} {x : Operand} {ok : Nat → Prop}
theorem stNB {g n cap i : Nat} {pp : Operand} {xs : List Bool} {q : Bool} (HO : Kd.N Kd.bool 4 W base ok (.slice (some ⟨g, 0, none⟩) n cap) xs) (hi : i < n) (HB : Below base w0 W)
    (ho : o.op = .store 4 pp x := by rfl) (hgd : o.guard = none := by rfl) (hN : o.dst = none := by rfl) (hp : a.eval pp = .pointer (some ⟨g, i, none⟩) := by rfl) (hx : a.eval x = .bool q := by rfl)
    (h : ∀ w1, Kd.N Kd.bool 4 w1 base ok (.slice (some ⟨g, 0, none⟩) n cap) (xs.set i q) → Below base w0 w1 → W.grownBy w1 (some g) → wpList Tryz.prog ops Q rest a w1) : wpList Tryz.prog ops Q (o :: rest) a W := by
  obtain ⟨c, hcl, _, hcc, _⟩ := Kd.N_elem HO false (i : Int) (by omega) (by omega)
  have hcl1 : c.length = 1 := hcl
  refine Kd.N_store Kd.bool (w0 := w0) base hN hgd 4 pp x ho 4 (i : Int) 0 xs q (.bool q) [.bool q] c ok (fun _ => False) hp ?_ hx rfl (by kernel_rfl) (by simp [Value.oneCell']) HO (by omega) (by omega) hcl hcc (by show 0 + 1 ≤ 1; omega) ?_ (fun k hk => hk.elim) HB (by rw [Int.toNat_natCast]; exact h)
  · rw [Int.toNat_natCast]; show i = i * 1 + 0; omega
  · intro W' _
    have : c.take 0 ++ [Value.bool q] ++ c.drop (0 + [Value.bool q].length) = [Value.bool q] := by
      rw [List.drop_eq_nil_of_le (by simp [hcl1])]; rfl
    rw [this]
    rfl
end
def leaveP (s : S80) (i : Int) : S80 × Int :=
  if i < 0 ∨ s.f0.length ≤ i then (s, 1) else if s.f1.getD i.toNat false then (s, 9) else (⟨s.f0, s.f1.set i.toNat true, s.f2, s.f3, s.f4⟩, 0)
theorem part_Leave.calls (s : S80) (cs : List Value) (ok : Nat → Prop) (i : Int) (w : World) (h : Kd.FK k80 w ok s cs) (hR : partR s = true) :
    Calls Tryz.prog 102 #[.agg cs.toArray, .int .i64 i] w fun e w' => ∃ cs', e = .returned (.tuple #[.agg cs'.toArray, .int .i64 (leaveP s i).2]) ∧ Kd.FK k80 w' (nw ok w) (leaveP s i).1 cs' ∧ Below w.heap.size w w' := by
  have hu := Tryz.underlying80
  obtain ⟨hR1, hR2, hR3, hR4⟩ := partR_iff.1 hR
  have HL1 := Aside0.mk hR1
  have hR6 : s.f0.length ≤ 8 := by have := (polR_iff.1 hR2).1; unfold taskA at this; rw [Bool.and_eq_true] at this; exact of_decide_eq_true this.2
  have HR := Aside0.mk hR
  have hR8 : s.f1.length ≤ 8 := by omega
  clear hR1 hR2 hR3 hR4 hR
  obtain ⟨A0, c0, A1, c1, A2, c2, A3, c3, A4, c4, rfl, l0, g0, l1, g1, l2, g2, l3, g3, l4, g4⟩ := k80_openF h
  have H := Aside0.mk h
  have G0 := Aside0.mk (Kd.F_bound g0)
  have G1 := Aside0.mk (Kd.F_bound g1)
  have G2 := Aside0.mk (Kd.F_bound g2)
  have G3 := Aside0.mk (Kd.F_bound g3)
  have G4 := Aside0.mk (Kd.F_bound g4)
  clear h g0 g1 g2 g3 g4
  by_cases q1 : i < 0
  · have hv := Aside0.mk (show leaveP s i = (s, 1) by unfold leaveP; rw [if_pos (Or.inl q1)])
    go_enter Tryz.func102, Tryz.ntmps102
    go_wp2_with fail
    have hB0 := blk_al (blk_new w (.cells #[.slice A0 s.f0.length c0, .slice A1 s.f1.length c1, .slice A2 s.f2.length c2, .slice A3 s.f3.length c3, .slice A4 s.f4.length c4] 80)) (.cells #[.slice none 0 0, .slice none 0 0, .slice none 0 0, .slice none 0 0, .slice none 0 0] 80)
    have hRB := blk_new (w.alloc (.cells #[.slice A0 s.f0.length c0, .slice A1 s.f1.length c1, .slice A2 s.f2.length c2, .slice A3 s.f3.length c3, .slice A4 s.f4.length c4] 80)) (.cells #[.slice none 0 0, .slice none 0 0, .slice none 0 0, .slice none 0 0, .slice none 0 0] 80)
    have hb := @bl2 w (.cells #[.slice A0 s.f0.length c0, .slice A1 s.f1.length c1, .slice A2 s.f2.length c2, .slice A3 s.f3.length c3, .slice A4 s.f4.length c4] 80) (.cells #[.slice none 0 0, .slice none 0 0, .slice none 0 0, .slice none 0 0, .slice none 0 0] 80)
    have hz : (w.alloc (.cells #[.slice A0 s.f0.length c0, .slice A1 s.f1.length c1, .slice A2 s.f2.length c2, .slice A3 s.f3.length c3, .slice A4 s.f4.length c4] 80)).heap.size = w.heap.size + 1 := alsz
    rw [hz] at hRB
    refine (part_Right.calls s [.slice A0 s.f0.length c0, .slice A1 s.f1.length c1, .slice A2 s.f2.length c2, .slice A3 s.f3.length c3, .slice A4 s.f4.length c4] ok _ (Kd.FK_below H.out hb)).mono ?_; rintro e w2 ⟨rfl, hb2⟩
    rw [HR.out]
    have hB0' := Aside0.mk (blk_below hB0 hb2)
    have hRB' := Aside0.mk (blk_below hRB hb2)
    have hbA := below_step hb hb2
    clear hB0 hRB hb hb2
    obtain ⟨x0, x1, x2, x3, x4⟩ := bx5 hB0'.out
    go_wp2_with ((with_reducible refine gate_store (t := 80) (p := 4) (v := .tmp 21) rfl ?_); refine stB (w0 := w) (base := w.heap.size) (seg := [.slice A0 s.f0.length c0, .slice A1 s.f1.length c1, .slice A2 s.f2.length c2, .slice A3 s.f3.length c3, .slice A4 s.f4.length c4]) (cs' := [.slice A0 s.f0.length c0, .slice A1 s.f1.length c1, .slice A2 s.f2.length c2, .slice A3 s.f3.length c3, .slice A4 s.f4.length c4]) hRB'.out hbA (by omega) (h := fun wy hBy hby hgy => ?_))
    (try simp only [Exit.inBlock, Exit.then])
    refine bodyPost_ret (results_list (rs := [.cell 4 80, .tmp 5]) rfl (by simp) (.cell _ 80 _ (0, 0) _ rfl hBy Tryz.underlying80 rfl (by kernel_rfl) (.tmp .nil))) rfl ?_
    refine ⟨_, by rw [hv.out]; rfl, by rw [hv.out]; exact Kd.FK_mono (Kd.FK_below H.out hby) (fun k hk => Or.inl hk), hby⟩
  obtain ⟨n, rfl⟩ : ∃ n : Nat, i = n := ⟨i.toNat, by omega⟩
  by_cases q2 : (s.f0.length : Int) ≤ n
  · have hv := Aside0.mk (show leaveP s n = (s, 1) by unfold leaveP; rw [if_pos (Or.inr q2)])
    go_enter Tryz.func102, Tryz.ntmps102
    go_wp2_with fail
    have hB0 := blk_al (blk_new w (.cells #[.slice A0 s.f0.length c0, .slice A1 s.f1.length c1, .slice A2 s.f2.length c2, .slice A3 s.f3.length c3, .slice A4 s.f4.length c4] 80)) (.cells #[.slice none 0 0, .slice none 0 0, .slice none 0 0, .slice none 0 0, .slice none 0 0] 80)
    have hRB := blk_new (w.alloc (.cells #[.slice A0 s.f0.length c0, .slice A1 s.f1.length c1, .slice A2 s.f2.length c2, .slice A3 s.f3.length c3, .slice A4 s.f4.length c4] 80)) (.cells #[.slice none 0 0, .slice none 0 0, .slice none 0 0, .slice none 0 0, .slice none 0 0] 80)
    have hb := @bl2 w (.cells #[.slice A0 s.f0.length c0, .slice A1 s.f1.length c1, .slice A2 s.f2.length c2, .slice A3 s.f3.length c3, .slice A4 s.f4.length c4] 80) (.cells #[.slice none 0 0, .slice none 0 0, .slice none 0 0, .slice none 0 0, .slice none 0 0] 80)
    have hz : (w.alloc (.cells #[.slice A0 s.f0.length c0, .slice A1 s.f1.length c1, .slice A2 s.f2.length c2, .slice A3 s.f3.length c3, .slice A4 s.f4.length c4] 80)).heap.size = w.heap.size + 1 := alsz
    rw [hz] at hRB
    refine (part_Right.calls s [.slice A0 s.f0.length c0, .slice A1 s.f1.length c1, .slice A2 s.f2.length c2, .slice A3 s.f3.length c3, .slice A4 s.f4.length c4] ok _ (Kd.FK_below H.out hb)).mono ?_; rintro e w2 ⟨rfl, hb2⟩
    rw [HR.out]
    have hB0' := Aside0.mk (blk_below hB0 hb2)
    have hRB' := Aside0.mk (blk_below hRB hb2)
    have hbA := below_step hb hb2
    clear hB0 hRB hb hb2
    obtain ⟨x0, x1, x2, x3, x4⟩ := bx5 hB0'.out
    go_wp2_with ((with_reducible refine gate_store (t := 80) (p := 4) (v := .tmp 21) rfl ?_); refine stB (w0 := w) (base := w.heap.size) (seg := [.slice A0 s.f0.length c0, .slice A1 s.f1.length c1, .slice A2 s.f2.length c2, .slice A3 s.f3.length c3, .slice A4 s.f4.length c4]) (cs' := [.slice A0 s.f0.length c0, .slice A1 s.f1.length c1, .slice A2 s.f2.length c2, .slice A3 s.f3.length c3, .slice A4 s.f4.length c4]) hRB'.out hbA (by omega) (h := fun wy hBy hby hgy => ?_))
    (try simp only [Exit.inBlock, Exit.then])
    refine bodyPost_ret (results_list (rs := [.cell 4 80, .tmp 5]) rfl (by simp) (.cell _ 80 _ (0, 0) _ rfl hBy Tryz.underlying80 rfl (by kernel_rfl) (.tmp .nil))) rfl ?_
    refine ⟨_, by rw [hv.out]; rfl, by rw [hv.out]; exact Kd.FK_mono (Kd.FK_below H.out hby) (fun k hk => Or.inl hk), hby⟩
  have hl1 : n < s.f1.length := by have := HL1.out; omega
  have hv0 := Aside0.mk (show leaveP s n = if s.f1.getD n false then (s, 9) else (⟨s.f0, s.f1.set n true, s.f2, s.f3, s.f4⟩, 0) by unfold leaveP; rw [if_neg (by omega)]; rfl)
  go_enter Tryz.func102, Tryz.ntmps102
  go_wp2_with fail
  have hB0 := blk_al (blk_new w (.cells #[.slice A0 s.f0.length c0, .slice A1 s.f1.length c1, .slice A2 s.f2.length c2, .slice A3 s.f3.length c3, .slice A4 s.f4.length c4] 80)) (.cells #[.slice none 0 0, .slice none 0 0, .slice none 0 0, .slice none 0 0, .slice none 0 0] 80)
  have hRB := blk_new (w.alloc (.cells #[.slice A0 s.f0.length c0, .slice A1 s.f1.length c1, .slice A2 s.f2.length c2, .slice A3 s.f3.length c3, .slice A4 s.f4.length c4] 80)) (.cells #[.slice none 0 0, .slice none 0 0, .slice none 0 0, .slice none 0 0, .slice none 0 0] 80)
  have hb := @bl2 w (.cells #[.slice A0 s.f0.length c0, .slice A1 s.f1.length c1, .slice A2 s.f2.length c2, .slice A3 s.f3.length c3, .slice A4 s.f4.length c4] 80) (.cells #[.slice none 0 0, .slice none 0 0, .slice none 0 0, .slice none 0 0, .slice none 0 0] 80)
  have hz : (w.alloc (.cells #[.slice A0 s.f0.length c0, .slice A1 s.f1.length c1, .slice A2 s.f2.length c2, .slice A3 s.f3.length c3, .slice A4 s.f4.length c4] 80)).heap.size = w.heap.size + 1 := alsz
  rw [hz] at hRB
  refine (part_Right.calls s [.slice A0 s.f0.length c0, .slice A1 s.f1.length c1, .slice A2 s.f2.length c2, .slice A3 s.f3.length c3, .slice A4 s.f4.length c4] ok _ (Kd.FK_below H.out hb)).mono ?_; rintro e w2 ⟨rfl, hb2⟩
  rw [HR.out]
  have hB0' := Aside0.mk (blk_below hB0 hb2)
  have hRB' := Aside0.mk (blk_below hRB hb2)
  have hbA := below_step hb hb2
  clear hB0 hRB hb hb2
  obtain ⟨x0, x1, x2, x3, x4⟩ := bx5 hB0'.out
  obtain ⟨ad, bv, rfl, hbv, e0⟩ := elB (Kd.F_now (Kd.F_below G1.out hbA)) n hl1
  have hb9 : s.f1.getD n false = bv := by rw [List.getD_eq_getElem?_getD, List.getElem?_eq_getElem hl1, Option.getD_some, hbv.out]
  have hv1 := Aside0.mk (hv0.out.trans (by rw [hb9]))
  clear hb9 hbv
  cases bv with
  | true =>
    have hv := Aside0.mk (hv1.out.trans (if_pos rfl))
    go_wp2_with ((with_reducible refine gate_store (t := 80) (p := 4) (v := .tmp 28) rfl ?_); refine stB (w0 := w) (base := w.heap.size) (seg := [.slice A0 s.f0.length c0, .slice (some ad) s.f1.length c1, .slice A2 s.f2.length c2, .slice A3 s.f3.length c3, .slice A4 s.f4.length c4]) (cs' := [.slice A0 s.f0.length c0, .slice (some ad) s.f1.length c1, .slice A2 s.f2.length c2, .slice A3 s.f3.length c3, .slice A4 s.f4.length c4]) hRB'.out hbA (by omega) (h := fun wy hBy hby hgy => ?_))
    (try simp only [Exit.inBlock, Exit.then])
    refine bodyPost_ret (results_list (rs := [.cell 4 80, .tmp 5]) rfl (by simp) (.cell _ 80 _ (0, 0) _ rfl hBy Tryz.underlying80 rfl (by kernel_rfl) (.tmp .nil))) rfl ?_
    refine ⟨_, by rw [hv.out]; rfl, by rw [hv.out]; exact Kd.FK_mono (Kd.FK_below H.out hby) (fun k hk => Or.inl hk), hby⟩
  | false =>
    have hv := Aside0.mk (hv1.out.trans (if_neg (by simp)))
    have hN0 := N_empty (d := Kd.bool) w2 w.heap.size (fun k => k ≠ w.heap.size ∧ k ≠ w.heap.size + 1) 4 hbA.size (by have := blk_lt hRB'.out; omega)
    have hlt2 := blk_lt hRB'.out
    obtain ⟨y0, y1, y2, y3, y4⟩ := bx5 (blk_al hB0'.out (.cells #[] 4))
    go_wp2_with (first
      | ((with_reducible refine gate_builtin (b := .append) (xs := #[.tmp 29, .tmp 31]) rfl ?_); at_builtin; refine apNR row4 (w0 := w) hN0 (Kd.F_below G1.out (below_alloc hbA _)) (fun k hk => ⟨⟨by omega, by omega⟩, ne_own hN0 hk.2⟩) (fun k hk => by rw [alsz] at hk; exact ⟨by omega, by omega⟩) (below_alloc hbA _) (by rw [alsz]; have := hbA.size; omega) (by show 0 + s.f1.length ≤ 100000; omega) (h := fun v5 w5 hN5 hb5 hg5 hat5 => ?_); (rw [List.nil_append] at hN5); (obtain ⟨gB, cB, rfl, hbg, hgl, -⟩ := Kd.N_form hN5 (by omega)); (have HN5 := Aside0.mk hN5); (have hB5 := Aside0.mk (blk_grown (blk_al hB0'.out (.cells #[] 4)) hg5 (fun he => by have h2 : w.heap.size = w2.heap.size := Option.some.inj he; omega))); (have hR5 := Aside0.mk (blk_grown (blk_al hRB'.out (.cells #[] 4)) hg5 (fun he => by have h2 : w.heap.size + 1 = w2.heap.size := Option.some.inj he; omega))); clear hN5; clear x0 x1 x2 x3 x4 y0 y1 y2 y3 y4; (obtain ⟨x0, x1, x2, x3, x4⟩ := bx5 hB5.out))
      | ((with_reducible refine gate_store (t := 77) (p := 33) (v := .tmp 32) rfl ?_); refine stB (w0 := w) (base := w.heap.size) (seg := [.slice (some ⟨gB, 0, none⟩) s.f1.length cB]) (cs' := [.slice A0 s.f0.length c0, .slice (some ⟨gB, 0, none⟩) s.f1.length cB, .slice A2 s.f2.length c2, .slice A3 s.f3.length c3, .slice A4 s.f4.length c4]) hB5.out hb5 (Nat.le_refl _) (h := fun w6 hB6 hb6 hg6 => ?_); (have HN6 := Aside0.mk (Kd.N_grown HN5.out hg6 (fun k hk he => hk.1 (Option.some.inj he)))); (have hR6' := Aside0.mk (blk_grown hR5.out hg6 (fun he => by have := Option.some.inj he; omega))); clear x0 x1 x2 x3 x4; (obtain ⟨x0, x1, x2, x3, x4⟩ := bx5 hB6))
      | ((with_reducible refine gate_store (t := 4) (p := 37) (v := .const (.bool true)) rfl ?_); refine stNB (w0 := w) HN6.out hl1 hb6 (h := fun w7 hN7 hb7 hg7 => ?_); (have hB7 := Aside0.mk (blk_grown hB6 hg7 (fun he => (HN6.out.1 gB rfl).1 (Option.some.inj he).symm))); (have hR7 := Aside0.mk (blk_grown hR6'.out hg7 (fun he => (HN6.out.1 gB rfl).2 (Option.some.inj he).symm))); clear x0 x1 x2 x3 x4; (obtain ⟨x0, x1, x2, x3, x4⟩ := bx5 hB7.out))
      | ((with_reducible refine gate_store (t := 80) (p := 4) (v := .tmp 38) rfl ?_); refine stB (w0 := w) (base := w.heap.size) (seg := [.slice A0 s.f0.length c0, .slice (some ⟨gB, 0, none⟩) s.f1.length cB, .slice A2 s.f2.length c2, .slice A3 s.f3.length c3, .slice A4 s.f4.length c4]) (cs' := [.slice A0 s.f0.length c0, .slice (some ⟨gB, 0, none⟩) s.f1.length cB, .slice A2 s.f2.length c2, .slice A3 s.f3.length c3, .slice A4 s.f4.length c4]) hR7.out hb7 (by omega) (h := fun wy hBy hby hgy => ?_)))
    (try simp only [Exit.inBlock, Exit.then])
    refine bodyPost_ret (results_list (rs := [.cell 4 80, .tmp 5]) rfl (by simp) (.cell _ 80 _ (0, 0) _ rfl hBy Tryz.underlying80 rfl (by kernel_rfl) (.tmp .nil))) rfl ?_
    have hNy := Kd.N_grown hN7 hgy (fun k hk he => hk.2 (Option.some.inj he))
    have hFy := Kd.F_mono (ok' := nw ok w) (Kd.N_F (N_tight flatB hNy)) (fun k hk => Or.inr (Kd.N_base hNy k hk.symm))
    have hcy := (Kd.N_reads' hNy).2.1
    have hlen : (s.f1.set n true).length = s.f1.length := List.length_set
    refine ⟨_, by rw [hv.out]; rfl, ?_, hby⟩
    rw [hv.out]
    have hfin := k80_mkF wy (nw ok w) ⟨s.f0, s.f1.set n true, s.f2, s.f3, s.f4⟩ l0 (Kd.F_mono (Kd.F_below G0.out hby) (fun k hk => Or.inl hk.1)) (A1 := some ⟨gB, 0, none⟩) (c1 := cB) (by show (s.f1.set n true).length ≤ cB; omega) (by show Kd.F _ _ _ _ (s.f1.set n true).length _; rw [hlen]; exact hFy) l2 (Kd.F_mono (Kd.F_below G2.out hby) (fun k hk => Or.inl hk.1)) l3 (Kd.F_mono (Kd.F_below G3.out hby) (fun k hk => Or.inl hk.1)) l4 (Kd.F_mono (Kd.F_below G4.out hby) (fun k hk => Or.inl hk.1))
    simp only [hlen] at hfin
    exact hfin
def part_Add.T6 : Bool × List (List Nat × List Nat) := (true, [([], []), ([], []), ([1], [1]), ([0, 2], [0, 2]), ([], []), ([4], [4]), ([3, 5, 3], [3, 5]), ([0, 1, 2, 3, 4, 5, 6], []), ([7, 6, 6, 0, 1, 2, 3, 4, 5, 6], [6, 7])])
def part_Add.B6 : List Nat := [0, 0, 2, 7, 0, 16, 63, 127, 255]
theorem part_Add.tab6 : rtab .any (opsOf Tryz.f92 6) = part_Add.T6 := by kernel_rfl
theorem part_Add.bits6 : waitsOk part_Add.T6.2 part_Add.B6 = true := by kernel_rfl
theorem flat89 (W : World) (ok1 ok2 : Nat → Prop) (x : S89) (c : List Value) (h : Kd.FK k89 W ok1 x c) : Kd.FK k89 W ok2 x c := by rw [k89_open (Kd.FK_now h)]; exact k89_mkF _ _ _
def addP (s : S80) (t : S44) : S80 := ⟨s.f0 ++ [t], s.f1 ++ [false], s.f2 ++ [-1], s.f3, s.f4⟩
theorem part_Add.calls (s : S80) (cs : List Value) (t : S44) (ct : List Value) (ok : Nat → Prop) (w : World) (h : Kd.FK k80 w ok s cs) (ht : Kd.FK k44 w ok t ct) (hR : partR s = true) (hT : taskR t = true) (hl : s.f0.length < 8) :
    Calls Tryz.prog 92 #[.agg cs.toArray, .agg ct.toArray] w fun e w' => ∃ cs', e = .returned (.tuple #[.agg cs'.toArray, .int .i64 0]) ∧ Kd.FK k80 w' (nw ok w) (addP s t) cs' ∧ Below w.heap.size w w' := by
  have hu := Tryz.underlying80
  have hu2 := Tryz.underlying44
  obtain ⟨hR1, hR2, hR3, hR4⟩ := partR_iff.1 hR
  have hq1 : s.f1.length ≤ 8 := by omega
  have hq2 : s.f2.length ≤ 8 := by have := (polR_iff.1 hR2).2.1; omega
  have hq3 : t.f3.length ≤ 4 := (taskR_own hT).2.2.2.2
  have HR := Aside0.mk hR
  have HT1 := Aside0.mk hT
  clear hR1 hR2 hR3 hR4 hR hT
  obtain ⟨A0, c0, A1, c1, A2, c2, A3, c3, A4, c4, rfl, l0, g0, l1, g1, l2, g2, l3, g3, l4, g4⟩ := k80_openF h
  obtain ⟨AS, dS, rfl, lS, gS⟩ := k44_openF ht
  have H := Aside0.mk h
  have G0 := Aside0.mk (Kd.F_bound g0)
  have G1 := Aside0.mk (Kd.F_bound g1)
  have G2 := Aside0.mk (Kd.F_bound g2)
  have G3 := Aside0.mk (Kd.F_bound g3)
  have G4 := Aside0.mk (Kd.F_bound g4)
  have GS := Aside0.mk (Kd.F_bound gS)
  clear h ht g0 g1 g2 g3 g4 gS
  go_enter Tryz.func92, Tryz.ntmps92
  go_wp2_with fail
  have hz1 : (w.alloc (.cells #[.slice A0 s.f0.length c0, .slice A1 s.f1.length c1, .slice A2 s.f2.length c2, .slice A3 s.f3.length c3, .slice A4 s.f4.length c4] 80)).heap.size = w.heap.size + 1 := alsz
  have hz2 : ((w.alloc (.cells #[.slice A0 s.f0.length c0, .slice A1 s.f1.length c1, .slice A2 s.f2.length c2, .slice A3 s.f3.length c3, .slice A4 s.f4.length c4] 80)).alloc (.cells #[.int .i64 t.f0, .int .i64 t.f1, .int .i64 t.f2, .slice AS t.f3.length dS] 44)).heap.size = w.heap.size + 2 := by rw [alsz, hz1]
  have hB0 := blk_al (blk_al (blk_new w (.cells #[.slice A0 s.f0.length c0, .slice A1 s.f1.length c1, .slice A2 s.f2.length c2, .slice A3 s.f3.length c3, .slice A4 s.f4.length c4] 80)) (.cells #[.int .i64 t.f0, .int .i64 t.f1, .int .i64 t.f2, .slice AS t.f3.length dS] 44)) (.cells #[.slice none 0 0, .slice none 0 0, .slice none 0 0, .slice none 0 0, .slice none 0 0] 80)
  have hT0 := blk_al (blk_new (w.alloc (.cells #[.slice A0 s.f0.length c0, .slice A1 s.f1.length c1, .slice A2 s.f2.length c2, .slice A3 s.f3.length c3, .slice A4 s.f4.length c4] 80)) (.cells #[.int .i64 t.f0, .int .i64 t.f1, .int .i64 t.f2, .slice AS t.f3.length dS] 44)) (.cells #[.slice none 0 0, .slice none 0 0, .slice none 0 0, .slice none 0 0, .slice none 0 0] 80)
  have hRB := blk_new ((w.alloc (.cells #[.slice A0 s.f0.length c0, .slice A1 s.f1.length c1, .slice A2 s.f2.length c2, .slice A3 s.f3.length c3, .slice A4 s.f4.length c4] 80)).alloc (.cells #[.int .i64 t.f0, .int .i64 t.f1, .int .i64 t.f2, .slice AS t.f3.length dS] 44)) (.cells #[.slice none 0 0, .slice none 0 0, .slice none 0 0, .slice none 0 0, .slice none 0 0] 80)
  rw [hz1] at hT0
  rw [hz2] at hRB
  have hb := @bl3 w (.cells #[.slice A0 s.f0.length c0, .slice A1 s.f1.length c1, .slice A2 s.f2.length c2, .slice A3 s.f3.length c3, .slice A4 s.f4.length c4] 80) (.cells #[.int .i64 t.f0, .int .i64 t.f1, .int .i64 t.f2, .slice AS t.f3.length dS] 44) (.cells #[.slice none 0 0, .slice none 0 0, .slice none 0 0, .slice none 0 0, .slice none 0 0] 80)
  refine (part_Right.calls s [.slice A0 s.f0.length c0, .slice A1 s.f1.length c1, .slice A2 s.f2.length c2, .slice A3 s.f3.length c3, .slice A4 s.f4.length c4] ok _ (Kd.FK_below H.out hb)).mono ?_; rintro e w2 ⟨rfl, hb2⟩
  rw [HR.out]
  have hB0' := Aside0.mk (blk_below hB0 hb2)
  have hT0' := Aside0.mk (blk_below hT0 hb2)
  have hRB' := Aside0.mk (blk_below hRB hb2)
  have hbA := below_step hb hb2
  clear hB0 hT0 hRB hb hb2
  obtain ⟨z0, z1, z2, z3⟩ := bx4 hT0'.out
  go_wp2_with fail
  refine (task_Right.calls t AS dS w2 (Kd.F_now (Kd.F_below GS.out hbA)) lS).mono ?_; rintro e w4 ⟨rfl, hb2⟩
  rw [HT1.out]
  have hB0 := Aside0.mk (blk_below hB0'.out hb2)
  have hT0 := Aside0.mk (blk_below hT0'.out hb2)
  have hRB := Aside0.mk (blk_below hRB'.out hb2)
  have hbB := below_step hbA hb2
  have hlt4 := blk_lt hRB.out
  clear hB0' hT0' hRB' hb2 hbA z0 z1 z2 z3
  obtain ⟨x0, x1, x2, x3, x4⟩ := bx5 hB0.out
  obtain ⟨z0, z1, z2, z3⟩ := bx4a hT0.out
  have hN0 := N_empty (d := k89) w4 w.heap.size (fun k => (ok k ∧ k < w.heap.size) ∨ w.heap.size + 3 ≤ k) 89 hbB.size (Or.inr (by omega))
  go_wp2_with (first
    | ((with_reducible refine gate_builtin (b := .append) (xs := #[.tmp 22, .tmp 24]) rfl ?_); at_builtin; refine apNR row89 (w0 := w) hN0 (Kd.F_below GS.out (below_alloc hbB _)) (fun k hk => ⟨Or.inl hk, ne_own hN0 hk.2⟩) (fun k hk => Or.inr (by rw [alsz] at hk; omega)) (below_alloc hbB _) (by rw [alsz]; omega) (by show 0 + t.f3.length ≤ 100000; omega) (h := fun v5 w5 hN5 hb5 hg5 hat5 => ?_); (rw [List.nil_append] at hN5); (obtain ⟨A5, c5, rfl⟩ := Kd.N_slice hN5); (have hc5 := (Kd.N_reads' hN5).2.1); (have HN5 := Aside0.mk hN5); (have hsn5 := hg5.size); rw [alsz] at hsn5; (have hB5 := Aside0.mk (blk_grown (blk_al hB0.out (.cells #[] 89)) hg5 (fun he => by have h2 : w.heap.size = w4.heap.size := Option.some.inj he; omega))); (have hT5 := Aside0.mk (blk_grown (blk_al hT0.out (.cells #[] 89)) hg5 (fun he => by have h2 : w.heap.size + 1 = w4.heap.size := Option.some.inj he; omega))); (have hR5 := Aside0.mk (blk_grown (blk_al hRB.out (.cells #[] 89)) hg5 (fun he => by have h2 : w.heap.size + 2 = w4.heap.size := Option.some.inj he; omega))); clear hN5; clear x0 x1 x2 x3 x4 z0 z1 z2 z3)
    | ((with_reducible refine gate_store (t := 42) (p := 26) (v := .tmp 25) rfl ?_); refine stB (w0 := w) (base := w.heap.size) (seg := [.slice A5 t.f3.length c5]) (cs' := [.int .i64 t.f0, .int .i64 t.f1, .int .i64 t.f2, .slice A5 t.f3.length c5]) hT5.out hb5 (by omega) (h := fun w6 hT6 hb6 hg6 => ?_)))
  have hB6 := blk_grown hB5.out hg6 (fun he => by have := Option.some.inj he; omega)
  have hR6 := Aside0.mk (blk_grown hR5.out hg6 (fun he => by have := Option.some.inj he; omega))
  have hn6 := Kd.N_grown HN5.out hg6 (fun k hk he => by have := Option.some.inj he; omega)
  have GS6 := Aside0.mk (Kd.F_mono (ok' := fun k => w.heap.size + 3 ≤ k ∧ k < w6.heap.size) (Kd.N_F (N_tight flat89 hn6)) (fun k hk => ⟨by have h1 := hn6.1 k hk.symm; have h2 := Kd.N_base hn6 k hk.symm; omega, Kd.N_lt hn6 k hk.symm⟩))
  have hsn6 := hg6.size
  have G06 := Aside0.mk (Kd.F_below G0.out hb6)
  have hlt6 := blk_lt hR6.out
  clear hn6
  obtain ⟨x0, x1, x2, x3, x4⟩ := bx5 hB6
  obtain ⟨z0, z1, z2, z3⟩ := bx4 hT6
  refine st_ 9 (fun w' => Below w6.heap.size w6 w' ∧ w'.cell? (⟨w.heap.size, 0, none⟩) = some (.slice A0 s.f0.length c0) ∧ w'.cell? (⟨w.heap.size + 1, 0, none⟩) = some (.int .i64 t.f0) ∧ w'.cell? (⟨w.heap.size + 1, 1, none⟩) = some (.int .i64 t.f1) ∧ w'.cell? (⟨w.heap.size + 1, 2, none⟩) = some (.int .i64 t.f2) ∧ w'.cell? (⟨w.heap.size + 1, 3, none⟩) = some (.slice A5 t.f3.length c5)) [8] part_Add.tab6 part_Add.bits6 ⟨below_drew1 bl0, x0, z0, z1, z2, z3⟩ (h := fun HT HW hHeld => ?_)
  repeat (first | refine pn_ HT (h := ?_) | refine tn_ HT HW hHeld (h := ?_) | refine zn_ HT (h := ?_))
  refine join_ (σ := (Nat × Nat) × (Option Addr × Nat)) 3 #[true, true, true, true, true, true, false, false, false] (fun q => [(27, .slice (some ⟨q.1.1, 0, none⟩) 0 0), (30, .slice q.2.1 s.f0.length q.2.2), (32, .slice (some ⟨q.1.2, 0, none⟩) 1 1)])
    (fun q w' => Below w6.heap.size w6 w' ∧ Kd.N k44 44 w' w6.heap.size (fun k => (ok k ∧ k < w.heap.size) ∨ w.heap.size + 3 ≤ k) (.slice q.2.1 s.f0.length q.2.2) s.f0 ∧ Kd.F k44 w' (fun k => ((w.heap.size + 3 ≤ k ∧ k < w6.heap.size) ∨ k = q.1.2) ∧ some k ≠ (Value.slice q.2.1 s.f0.length q.2.2).ownBlock) (some ⟨q.1.2, 0, none⟩) 1 [t] ∧ w6.heap.size ≤ q.1.2) (fun q w' hF => ?_) (fun HJN => ?_)
  rotate_left
  · have hz6 : w6.drew.heap.size = w6.heap.size := rfl
    refine tw_ 0 5 HT (h1 := fun K hK => ?_) (h2 := fun K hK => ?_)
    · refine ev_ (w1 := w6.drew.alloc (.cells #[] 44)) (v := .slice (some ⟨w6.drew.heap.size, 0, none⟩) 0 0) (by go_simp; done) ?_
      have hN0 := N_empty (d := k44) w6.drew w6.heap.size (fun k => (ok k ∧ k < w.heap.size) ∨ w.heap.size + 3 ≤ k) 44 (hHeld.1).size (Or.inr (by have := (hHeld.1).size; omega))
      refine hK.out _ _ ⟨below_alloc (hHeld.1) _, al_cell (hHeld.2.1) _, al_cell (hHeld.2.2.1) _, al_cell (hHeld.2.2.2.1) _, al_cell (hHeld.2.2.2.2.1) _, al_cell (hHeld.2.2.2.2.2) _⟩ (fun hHeld => ?_)
      refine nm_ (h := ?_)
      repeat (first | refine pn_ HT (h := ?_) | refine tn_ HT HW hHeld (h := ?_) | refine zn_ HT (h := ?_))
      refine tw_ 3 5 HT (h1 := fun K hK => ?_) (h2 := fun K hK => ?_)
      · refine apNR_step row44 (w0 := w6) hN0 (Kd.F_below G06.out (hHeld.1)) (fun k hk => ⟨Or.inl hk, ne_own hN0 (by have := hk.2; omega)⟩) (fun k hk => Or.inr (by have := Below.size (hHeld.1); omega)) (hHeld.1) (hHeld.1).size (by show 0 + s.f0.length ≤ 100000; omega) (h := fun v7 w7 hN7 hb7 hg7 hat7 => ?_)
        rw [List.nil_append] at hN7
        refine hK.out _ _ ⟨hb7, be_cell hb7 x0, be_cell hb7 z0, be_cell hb7 z1, be_cell hb7 z2, be_cell hb7 z3⟩ (fun hHeld => ?_)
        refine nm_ (h := ?_)
        obtain ⟨A7, c7, rfl⟩ := Kd.N_slice hN7
        repeat (first | refine pn_ HT (h := ?_) | refine tn_ HT HW hHeld (h := ?_) | refine zn_ HT (h := ?_))
        refine on_ HT (h := fun K hK => ?_)
        refine ev_ (w1 := w7.alloc (.cells #[.int .i64 t.f0, .int .i64 t.f1, .int .i64 t.f2, .slice A5 t.f3.length c5] 44)) (v := .slice (some ⟨w7.heap.size, 0, none⟩) 1 1) (by go_simp; done) ?_
        have hNL := N_one (d := k44) (okp := fun k => w.heap.size + 3 ≤ k ∧ k < w6.heap.size) (ok := fun k => (w.heap.size + 3 ≤ k ∧ k < w6.heap.size) ∨ k = w7.heap.size) (x := t) (c := [.int .i64 t.f0, .int .i64 t.f1, .int .i64 t.f2, .slice A5 t.f3.length c5]) w7 w6.heap.size 44 (hHeld.1).size (k44_mkF _ _ t hc5 (Kd.F_below GS6.out (hHeld.1))) (fun _ h => Or.inl h) (Or.inr rfl)
        refine hK.out _ _ ⟨below_alloc (hHeld.1) _, al_cell (hHeld.2.1) _, al_cell (hHeld.2.2.1) _, al_cell (hHeld.2.2.2.1) _, al_cell (hHeld.2.2.2.2.1) _, al_cell (hHeld.2.2.2.2.2) _⟩ (fun hHeld => ?_)
        refine norm_ ?_ (HJN ((w6.drew.heap.size, w7.heap.size), (A7, c7)) _ ⟨(hHeld.1), Kd.N_alloc hN7 _, Kd.F_mono (Kd.N_F hNL) (fun k hk => ⟨hk, fun he => hk.elim (fun h => by have := Kd.N_base hN7 k he.symm; omega) (fun h => by have := Kd.N_lt hN7 k he.symm; omega)⟩), (by have := (hHeld.1).size; rw [alsz] at this; have := hb7.size; omega)⟩)
        simp only [putAll, Act.put, sbA, sbB, sbC]
      · refine ev_ (w1 := (w6.drew.alloc (.cells #[] 44)).alloc (.cells #[.int .i64 t.f0, .int .i64 t.f1, .int .i64 t.f2, .slice A5 t.f3.length c5] 44)) (v := .slice (some ⟨(w6.drew.alloc (.cells #[] 44)).heap.size, 0, none⟩) 1 1) (by go_simp; done) ?_
        have hNL := N_one (d := k44) (okp := fun k => w.heap.size + 3 ≤ k ∧ k < w6.heap.size) (ok := fun k => (w.heap.size + 3 ≤ k ∧ k < w6.heap.size) ∨ k = (w6.drew.alloc (.cells #[] 44)).heap.size) (x := t) (c := [.int .i64 t.f0, .int .i64 t.f1, .int .i64 t.f2, .slice A5 t.f3.length c5]) (w6.drew.alloc (.cells #[] 44)) w6.heap.size 44 (hHeld.1).size (k44_mkF _ _ t hc5 (Kd.F_below GS6.out (hHeld.1))) (fun _ h => Or.inl h) (Or.inr rfl)
        refine hK.out _ _ ⟨below_alloc (hHeld.1) _, al_cell (hHeld.2.1) _, al_cell (hHeld.2.2.1) _, al_cell (hHeld.2.2.2.1) _, al_cell (hHeld.2.2.2.2.1) _, al_cell (hHeld.2.2.2.2.2) _⟩ (fun hHeld => ?_)
        refine nm_ (h := ?_)
        have hN0 := Kd.N_alloc hN0 (.cells #[.int .i64 t.f0, .int .i64 t.f1, .int .i64 t.f2, .slice A5 t.f3.length c5] 44)
        repeat (first | refine pn_ HT (h := ?_) | refine tn_ HT HW hHeld (h := ?_) | refine zn_ HT (h := ?_))
        refine on_ HT (h := fun K hK => ?_)
        refine apNR_step row44 (w0 := w6) hN0 (Kd.F_below G06.out (hHeld.1)) (fun k hk => ⟨Or.inl hk, ne_own hN0 (by have := hk.2; omega)⟩) (fun k hk => Or.inr (by have := Below.size (hHeld.1); omega)) (hHeld.1) (hHeld.1).size (by show 0 + s.f0.length ≤ 100000; omega) (h := fun v7 w7 hN7 hb7 hg7 hat7 => ?_)
        rw [List.nil_append] at hN7
        refine hK.out _ _ ⟨hb7, be_cell hb7 x0, be_cell hb7 z0, be_cell hb7 z1, be_cell hb7 z2, be_cell hb7 z3⟩ (fun hHeld => ?_)
        refine nm_ (h := ?_)
        obtain ⟨A7, c7, rfl⟩ := Kd.N_slice hN7
        have hNL7 := Kd.N_grown hNL hg7 (fun k hk he => by have h1 := Option.some.inj he; revert hk; rw [h1]; simp only [alsz]; omega)
        refine norm_ ?_ (HJN ((w6.drew.heap.size, (w6.drew.alloc (.cells #[] 44)).heap.size), (A7, c7)) _ ⟨(hHeld.1), hN7, Kd.F_mono (Kd.N_F hNL7) (fun k hk => ⟨hk, fun he => ?_⟩), (by simp only [alsz]; omega)⟩)
        · simp only [putAll, Act.put, sbA, sbB, sbC]
        · rcases hat7 with h1 | ⟨b, h1, h2⟩
          · rw [h1] at he; have h3 := Option.some.inj he; revert hk; rw [h3]; simp only [alsz]; omega
          · rw [h1] at he; have h3 := Option.some.inj he; revert hk h2; rw [← h3]; simp only [alsz]; omega
    · refine ev_ (w1 := w6.drew.alloc (.cells #[.int .i64 t.f0, .int .i64 t.f1, .int .i64 t.f2, .slice A5 t.f3.length c5] 44)) (v := .slice (some ⟨w6.drew.heap.size, 0, none⟩) 1 1) (by go_simp; done) ?_
      have hNL := N_one (d := k44) (okp := fun k => w.heap.size + 3 ≤ k ∧ k < w6.heap.size) (ok := fun k => (w.heap.size + 3 ≤ k ∧ k < w6.heap.size) ∨ k = w6.drew.heap.size) (x := t) (c := [.int .i64 t.f0, .int .i64 t.f1, .int .i64 t.f2, .slice A5 t.f3.length c5]) w6.drew w6.heap.size 44 (hHeld.1).size (k44_mkF _ _ t hc5 (Kd.F_below GS6.out (hHeld.1))) (fun _ h => Or.inl h) (Or.inr rfl)
      refine hK.out _ _ ⟨below_alloc (hHeld.1) _, al_cell (hHeld.2.1) _, al_cell (hHeld.2.2.1) _, al_cell (hHeld.2.2.2.1) _, al_cell (hHeld.2.2.2.2.1) _, al_cell (hHeld.2.2.2.2.2) _⟩ (fun hHeld => ?_)
      refine nm_ (h := ?_)
      have hNL := Kd.N_alloc hNL (.cells #[] 44)
      repeat (first | refine pn_ HT (h := ?_) | refine tn_ HT HW hHeld (h := ?_) | refine zn_ HT (h := ?_))
      refine on_ HT (h := fun K hK => ?_)
      refine ev_ (w1 := (w6.drew.alloc (.cells #[.int .i64 t.f0, .int .i64 t.f1, .int .i64 t.f2, .slice A5 t.f3.length c5] 44)).alloc (.cells #[] 44)) (v := .slice (some ⟨(w6.drew.alloc (.cells #[.int .i64 t.f0, .int .i64 t.f1, .int .i64 t.f2, .slice A5 t.f3.length c5] 44)).heap.size, 0, none⟩) 0 0) (by go_simp; done) ?_
      have hN0 := N_empty (d := k44) (w6.drew.alloc (.cells #[.int .i64 t.f0, .int .i64 t.f1, .int .i64 t.f2, .slice A5 t.f3.length c5] 44)) w6.heap.size (fun k => (ok k ∧ k < w.heap.size) ∨ w.heap.size + 3 ≤ k) 44 (hHeld.1).size (Or.inr (by have := (hHeld.1).size; omega))
      refine hK.out _ _ ⟨below_alloc (hHeld.1) _, al_cell (hHeld.2.1) _, al_cell (hHeld.2.2.1) _, al_cell (hHeld.2.2.2.1) _, al_cell (hHeld.2.2.2.2.1) _, al_cell (hHeld.2.2.2.2.2) _⟩ (fun hHeld => ?_)
      refine nm_ (h := ?_)
      repeat (first | refine pn_ HT (h := ?_) | refine tn_ HT HW hHeld (h := ?_) | refine zn_ HT (h := ?_))
      refine on_ HT (h := fun K hK => ?_)
      refine apNR_step row44 (w0 := w6) hN0 (Kd.F_below G06.out (hHeld.1)) (fun k hk => ⟨Or.inl hk, ne_own hN0 (by have := hk.2; omega)⟩) (fun k hk => Or.inr (by have := Below.size (hHeld.1); omega)) (hHeld.1) (hHeld.1).size (by show 0 + s.f0.length ≤ 100000; omega) (h := fun v7 w7 hN7 hb7 hg7 hat7 => ?_)
      rw [List.nil_append] at hN7
      refine hK.out _ _ ⟨hb7, be_cell hb7 x0, be_cell hb7 z0, be_cell hb7 z1, be_cell hb7 z2, be_cell hb7 z3⟩ (fun hHeld => ?_)
      refine nm_ (h := ?_)
      obtain ⟨A7, c7, rfl⟩ := Kd.N_slice hN7
      have hNL7 := Kd.N_grown hNL hg7 (fun k hk he => by have h1 := Option.some.inj he; revert hk; rw [h1]; simp only [alsz]; omega)
      refine norm_ ?_ (HJN (((w6.drew.alloc (.cells #[.int .i64 t.f0, .int .i64 t.f1, .int .i64 t.f2, .slice A5 t.f3.length c5] 44)).heap.size, w6.drew.heap.size), (A7, c7)) _ ⟨(hHeld.1), hN7, Kd.F_mono (Kd.N_F hNL7) (fun k hk => ⟨hk, fun he => ?_⟩), (by simp only [alsz]; omega)⟩)
      · simp only [putAll, Act.put, sbA, sbB, sbC]
      · rcases hat7 with h1 | ⟨b, h1, h2⟩
        · rw [h1] at he; have h3 := Option.some.inj he; revert hk; rw [h3]; simp only [alsz]; omega
        · rw [h1] at he; have h3 := Option.some.inj he; revert hk h2; rw [← h3]; simp only [alsz]; omega
  · obtain ⟨⟨gA, gL⟩, A7, c7⟩ := q
    obtain ⟨hbH, hN7, hL7, hgL⟩ := hF
    dsimp only at hbH hN7 hL7 hgL ⊢
    refine norm_ (by (simp only [putAll, Act.put, sbA, sbB, sbC]; rfl)) ?_
    repeat (first | refine pn_ HT (h := ?_) | refine tn_ HT HW hHeld (h := ?_) | refine zn_ HT (h := ?_))
    refine on_ HT (h := fun K hK => ?_)
    refine apNR_step row44 (w0 := w6) hN7 hL7 (fun k hk => ⟨Or.inr (by omega), hk.2⟩) (fun k hk => Or.inr (by have := Below.size hbH; omega)) hbH hbH.size (by show s.f0.length + 1 ≤ 100000; omega) (h := fun v8 w8 hN8 hb7 hg8 hat8 => ?_)
    refine hK.out _ _ ⟨hb7, be_cell hb7 x0, be_cell hb7 z0, be_cell hb7 z1, be_cell hb7 z2, be_cell hb7 z3⟩ (fun hHeld => ?_)
    refine nm_ (h := ?_)
    have hlen8 : (s.f0 ++ [t]).length = s.f0.length + 1 := by simp
    obtain ⟨A8, c8, rfl⟩ := Kd.N_slice hN8
    rw [hlen8] at hN8
    rw [hlen8]
    have hb8 := hb7
    repeat (first | refine pn_ HT (h := ?_) | refine tn_ HT HW hHeld (h := ?_) | refine zn_ HT (h := ?_))
    have hB8 := blk_below hB6 hb8
    have hR8 := blk_below hR6.out hb8
    have hb8w := Below.trans hb6 (Below.mono hb8 (by omega))
    have HN8 := Aside0.mk hN8
    clear hN8 hN7 hL7
    refine ln_ HT (h := fun K hK => ?_)
    refine stB_step (w0 := w) (base := w.heap.size) (seg := [.slice A8 (s.f0.length + 1) c8]) (cs' := [.slice A8 (s.f0.length + 1) c8, .slice A1 s.f1.length c1, .slice A2 s.f2.length c2, .slice A3 s.f3.length c3, .slice A4 s.f4.length c4]) hB8 hb8w (Nat.le_refl _) (h := fun w9 hB9 hb9 hg9 => ?_)
    refine hK.out _ _ ?_
    repeat (first | refine pn_ HT (h := ?_) | refine zn_ HT (h := ?_))
    refine dn_ HT (h := ?_)
    clear HT HW hHeld
    have hs8 := hb8.size
    have hs9 := hg9.size
    have hR9 := blk_grown hR8 hg9 (fun he => by have := Option.some.inj he; omega)
    have HN9 := Aside0.mk (Kd.N_bound (Kd.N_grown HN8.out hg9 (fun k hk he => by have := Option.some.inj he; omega)))
    clear x0 x1 x2 x3 x4 z0 z1 z2 z3
    obtain ⟨x0, x1, x2, x3, x4⟩ := bx5a hB9
    have hN90 := N_empty (d := Kd.bool) w9 w.heap.size (fun k => k < w.heap.size ∨ w9.heap.size ≤ k) 4 hb9.size (Or.inr (Nat.le_refl _))
    go_wp2_with (first
      | ((with_reducible refine gate_builtin (b := .append) (xs := #[.tmp 35, .tmp 37]) rfl ?_); at_builtin; refine apNR row4 (w0 := w) hN90 (Kd.F_below G1.out (below_alloc hb9 _)) (fun k hk => ⟨Or.inl hk.2, ne_own hN90 hk.2⟩) (fun k hk => Or.inr (by rw [alsz] at hk; omega)) (below_alloc hb9 _) (by rw [alsz]; omega) (by show 0 + s.f1.length ≤ 100000; omega) (h := fun v10 w10 hN10 hb10 hg10 hat10 => ?_); (rw [List.nil_append] at hN10); (have hsn10 := hg10.size); rw [alsz] at hsn10; (have hB10 := Aside0.mk (blk_grown (blk_al hB9 (.cells #[] 4)) hg10 (fun he => by have h2 : w.heap.size = w9.heap.size := Option.some.inj he; omega))); (have hR10 := Aside0.mk (blk_grown (blk_al hR9 (.cells #[] 4)) hg10 (fun he => by have h2 : w.heap.size + 2 = w9.heap.size := Option.some.inj he; omega))))
      | ((with_reducible refine gate_builtin (b := .append) (xs := #[.tmp 38, .tmp 39]) rfl ?_); at_builtin; refine apN row4 (w0 := w) (cs := [.bool false]) (p := false) (okp := fun _ => False) hN10 (fun _ _ => rfl) (fun k hk => hk.elim) (fun k hk => Or.inr (by omega)) hb10 (by omega) (by omega) (h := fun v11 w11 hN11 hb11 hg11 hat11 => ?_); (have hl11 : (s.f1 ++ [(false : Bool)]).length = s.f1.length + 1 := by simp); (obtain ⟨AB, cB, rfl⟩ := Kd.N_slice hN11); rw [hl11] at hN11; (have hsn11 := hg11.size); (have hB11 := Aside0.mk (blk_grown hB10.out hg11 (fun he => (hN10.1 _ he.symm).elim (fun h => by omega) (fun h => by omega)))); (have hR11 := Aside0.mk (blk_grown hR10.out hg11 (fun he => (hN10.1 _ he.symm).elim (fun h => by omega) (fun h => by omega)))); rw [hl11])
      | ((with_reducible refine gate_store (t := 77) (p := 41) (v := .tmp 40) rfl ?_); refine stB (w0 := w) (base := w.heap.size) (seg := [.slice AB (s.f1.length + 1) cB]) (cs' := [.slice A8 (s.f0.length + 1) c8, .slice AB (s.f1.length + 1) cB, .slice A2 s.f2.length c2, .slice A3 s.f3.length c3, .slice A4 s.f4.length c4]) hB11.out hb11 (Nat.le_refl _) (h := fun w12 hB12 hb12 hg12 => ?_); (have hR12 := Aside0.mk (blk_grown hR11.out hg12 (fun he => by have := Option.some.inj he; omega))); (have hsn12 := hg12.size); clear x0 x1 x2 x3 x4; (obtain ⟨x0, x1, x2, x3, x4⟩ := bx5a hB12); (have hN120 := N_empty (d := (Kd.int .i64)) w12 w.heap.size (fun k => k < w.heap.size ∨ w12.heap.size ≤ k) 3 hb12.size (Or.inr (Nat.le_refl _))))
      | ((with_reducible refine gate_builtin (b := .append) (xs := #[.tmp 42, .tmp 44]) rfl ?_); at_builtin; refine apNR row3 (w0 := w) hN120 (Kd.F_below G2.out (below_alloc hb12 _)) (fun k hk => ⟨Or.inl hk.2, ne_own hN120 hk.2⟩) (fun k hk => Or.inr (by rw [alsz] at hk; omega)) (below_alloc hb12 _) (by rw [alsz]; omega) (by show 0 + s.f2.length ≤ 100000; omega) (h := fun v13 w13 hN13 hb13 hg13 hat13 => ?_); (rw [List.nil_append] at hN13); (have hsn13 := hg13.size); rw [alsz] at hsn13; (have hB13 := Aside0.mk (blk_grown (blk_al hB12 (.cells #[] 3)) hg13 (fun he => by have h2 : w.heap.size = w12.heap.size := Option.some.inj he; omega))); (have hR13 := Aside0.mk (blk_grown (blk_al hR12.out (.cells #[] 3)) hg13 (fun he => by have h2 : w.heap.size + 2 = w12.heap.size := Option.some.inj he; omega))))
      | ((with_reducible refine gate_builtin (b := .append) (xs := #[.tmp 45, .tmp 46]) rfl ?_); at_builtin; refine apN row3 (w0 := w) (cs := [.int .i64 (-1)]) (p := -1) (okp := fun _ => False) hN13 (fun _ _ => rfl) (fun k hk => hk.elim) (fun k hk => Or.inr (by omega)) hb13 (by omega) (by omega) (h := fun v14 w14 hN14 hb14 hg14 hat14 => ?_); (have hl14 : (s.f2 ++ [(-1 : Int)]).length = s.f2.length + 1 := by simp); (obtain ⟨AI, cI, rfl⟩ := Kd.N_slice hN14); rw [hl14] at hN14; (have hsn14 := hg14.size); (have hB14 := Aside0.mk (blk_grown hB13.out hg14 (fun he => (hN13.1 _ he.symm).elim (fun h => by omega) (fun h => by omega)))); (have hR14 := Aside0.mk (blk_grown hR13.out hg14 (fun he => (hN13.1 _ he.symm).elim (fun h => by omega) (fun h => by omega)))); rw [hl14])
      | ((with_reducible refine gate_store (t := 33) (p := 48) (v := .tmp 47) rfl ?_); refine stB (w0 := w) (base := w.heap.size) (seg := [.slice AI (s.f2.length + 1) cI]) (cs' := [.slice A8 (s.f0.length + 1) c8, .slice AB (s.f1.length + 1) cB, .slice AI (s.f2.length + 1) cI, .slice A3 s.f3.length c3, .slice A4 s.f4.length c4]) hB14.out hb14 (Nat.le_refl _) (h := fun w15 hB15 hb15 hg15 => ?_); (have hR15 := Aside0.mk (blk_grown hR14.out hg15 (fun he => by have := Option.some.inj he; omega))); (have hsn15 := hg15.size); clear x0 x1 x2 x3 x4; (obtain ⟨x0, x1, x2, x3, x4⟩ := bx5 hB15))
      | ((with_reducible refine gate_store (t := 80) (p := 4) (v := .tmp 49) rfl ?_); refine stB (w0 := w) (base := w.heap.size) (seg := [.slice A8 (s.f0.length + 1) c8, .slice AB (s.f1.length + 1) cB, .slice AI (s.f2.length + 1) cI, .slice A3 s.f3.length c3, .slice A4 s.f4.length c4]) (cs' := [.slice A8 (s.f0.length + 1) c8, .slice AB (s.f1.length + 1) cB, .slice AI (s.f2.length + 1) cI, .slice A3 s.f3.length c3, .slice A4 s.f4.length c4]) hR15.out hb15 (by omega) (h := fun wy hBy hby hgy => ?_)))
    (try simp only [Exit.inBlock, Exit.then])
    refine bodyPost_ret (results_list (rs := [.cell 4 80, .tmp 5]) rfl (by simp) (.cell _ 80 _ (0, 0) _ rfl hBy Tryz.underlying80 rfl (by kernel_rfl) (.tmp .nil))) rfl ?_
    have s10 : w9.heap.size + 1 ≤ w10.heap.size := by omega
    have s13 : w12.heap.size + 1 ≤ w13.heap.size := by omega
    have e1 : ∀ k, k < w9.heap.size → w11.heap[k]? = w9.heap[k]? := fun k hk => (hg11.block k (by omega) (fun he => (hN10.1 _ he.symm).elim (fun h => by have := Kd.N_base hN10 _ he.symm; omega) (fun h => by omega))).trans ((hg10.block k (by rw [alsz]; omega) (fun he => by have h2 : k = w9.heap.size := Option.some.inj he; omega)).trans (Below.heap_alloc w9 _ k hk))
    have e2 : ∀ k, k < w11.heap.size → k ≠ w.heap.size → w12.heap[k]? = w11.heap[k]? := fun k hk h1 => hg12.block k hk (fun he => h1 (Option.some.inj he))
    have e3 : ∀ k, k < w12.heap.size → w14.heap[k]? = w12.heap[k]? := fun k hk => (hg14.block k (by omega) (fun he => (hN13.1 _ he.symm).elim (fun h => by have := Kd.N_base hN13 _ he.symm; omega) (fun h => by omega))).trans ((hg13.block k (by rw [alsz]; omega) (fun he => by have h2 : k = w12.heap.size := Option.some.inj he; omega)).trans (Below.heap_alloc w12 _ k hk))
    have e4 : ∀ k, k < w14.heap.size → k ≠ w.heap.size → k ≠ w.heap.size + 2 → wy.heap[k]? = w14.heap[k]? := fun k hk h1 h2 => (hgy.block k (by omega) (fun he => h2 (Option.some.inj he))).trans (hg15.block k hk (fun he => h1 (Option.some.inj he)))
    have F0 := Kd.F_mono (ok' := nw ok w) (Kd.F_step (W1 := wy) (Kd.N_F HN9.out) (fun k hk hlt => (e4 k (by omega) (by omega) (by omega)).trans ((e3 k (by omega)).trans ((e2 k (by omega) (by omega)).trans (e1 k hlt))))) (fun k hk => hk.1.elim (fun h => Or.inl h.1) (fun h => Or.inr (by omega)))
    have F1 := Kd.F_mono (ok' := nw ok w) (Kd.F_step (W1 := wy) (Kd.N_F (N_tight flatB hN11)) (fun k hk hlt => (hN11.1 k hk.symm).elim (fun h => by have := Kd.N_base hN11 k hk.symm; omega) (fun h => (e4 k (by omega) (by omega) (by omega)).trans ((e3 k (by omega)).trans (e2 k hlt (by omega)))))) (fun k hk => Or.inr (Kd.N_base hN11 k hk.symm))
    have F2 := Kd.F_mono (ok' := nw ok w) (Kd.F_step (W1 := wy) (Kd.N_F (N_tight flatI hN14)) (fun k hk hlt => (hN14.1 k hk.symm).elim (fun h => by have := Kd.N_base hN14 k hk.symm; omega) (fun h => e4 k hlt (by omega) (by omega)))) (fun k hk => Or.inr (Kd.N_base hN14 k hk.symm))
    have c8l := (Kd.N_reads' HN9.out).2.1
    have cBl := (Kd.N_reads' hN11).2.1
    have cIl := (Kd.N_reads' hN14).2.1
    refine ⟨_, rfl, ?_, hby⟩
    have hfin := k80_mkF wy (nw ok w) (addP s t) (A0 := A8) (c0 := c8) (by show (s.f0 ++ [t]).length ≤ c8; omega) (by show Kd.F _ _ _ _ (s.f0 ++ [t]).length _; rw [hlen8]; exact F0) (A1 := AB) (c1 := cB) (by show (s.f1 ++ [false]).length ≤ cB; omega) (by show Kd.F _ _ _ _ (s.f1 ++ [false]).length _; rw [hl11]; exact F1)
      (A2 := AI) (c2 := cI) (by show (s.f2 ++ [-1]).length ≤ cI; omega) (by show Kd.F _ _ _ _ (s.f2 ++ [-1]).length _; rw [hl14]; exact F2) (A3 := A3) (c3 := c3) l3 (Kd.F_mono (Kd.F_below G3.out hby) (fun k hk => Or.inl hk.1)) (A4 := A4) (c4 := c4) l4 (Kd.F_mono (Kd.F_below G4.out hby) (fun k hk => Or.inl hk.1))
    simp only [addP, hlen8, hl11, hl14] at hfin
    exact hfin
def s0 : S80 := ⟨[], [], [], [], []⟩
def newP (l : List S44) : S80 := ⟨l, List.replicate l.length false, List.replicate l.length (-1), [], []⟩
theorem newP_snoc (l : List S44) (t : S44) : newP (l ++ [t]) = addP (newP l) t := by
  unfold newP addP
  rw [List.length_append]
  simp only [List.length_singleton, List.replicate_succ']
theorem partR_new {l : List S44} (h : taskA l = true) : partR (newP l) = true := by
  refine partR_iff.2 ⟨by simp [newP], ?_, ?_, by simp [newP]⟩
  · exact polR_iff.2 ⟨h, by simp [newP], by simp [newP, lastOk]⟩
  · exact jobA_iff2.2 ⟨h, by simp [newP], by simp [newP], by simp [newP]⟩
theorem taskA_take {l : List S44} (h : taskA l = true) (i : Nat) : taskA (l.take i) = true := by
  unfold taskA at h ⊢
  rw [Bool.and_eq_true, List.all_eq_true, decide_eq_true_iff] at h ⊢
  exact ⟨fun x hx => h.1 x (List.mem_of_mem_take hx), by rw [List.length_take]; omega⟩
theorem k80_zero (W : World) (ok : Nat → Prop) : Kd.FK k80 W ok s0 [.slice none 0 0, .slice none 0 0, .slice none 0 0, .slice none 0 0, .slice none 0 0] := k80_mkF W ok s0 (Nat.le_refl 0) (Kd.F_nil _ _ _) (Nat.le_refl 0) (Kd.F_nil _ _ _) (Nat.le_refl 0) (Kd.F_nil _ _ _) (Nat.le_refl 0) (Kd.F_nil _ _ _) (Nat.le_refl 0) (Kd.F_nil _ _ _)
theorem el44F {w : World} {ok : Nat → Prop} {A : Option Addr} {l : List S44} (h : Kd.F k44 w ok A l.length l) (i : Nat) (hi : i < l.length) : ∃ (ad : Addr) (A3 : Option Addr) (c3 : Nat) (t : S44), A = some ad ∧ Aside0 (l[i] = t) ∧ w.cell? (ad.add (i * 4)) = some (.int .i64 t.f0) ∧ w.cell? ⟨(ad.add (i * 4)).block, (ad.add (i * 4)).off + 1, none⟩ = some (.int .i64 t.f1) ∧ w.cell? ⟨(ad.add (i * 4)).block, (ad.add (i * 4)).off + 2, none⟩ = some (.int .i64 t.f2) ∧ w.cell? ⟨(ad.add (i * 4)).block, (ad.add (i * 4)).off + 3, none⟩ = some (.slice A3 t.f3.length c3) ∧ t.f3.length ≤ c3 ∧ Kd.F k89 w ok A3 t.f3.length t.f3 := by
  obtain ⟨ad, A3, c3, t, hA, ht, e0, e1, e2, e3, -, -⟩ := el44 (Kd.F_now h) i hi
  obtain ⟨ad', c, hA', hcl, hK, hc⟩ := Kd.F_get h z44 (i : Int) (by omega) (by omega)
  rw [hA] at hA'
  obtain rfl := Option.some.inj hA'
  have hq : l.getD (i : Int).toNat z44 = t := by rw [Int.toNat_natCast, List.getD_eq_getElem?_getD, List.getElem?_eq_getElem hi, Option.getD_some, ht.out]
  rw [hq] at hK
  obtain ⟨A3', c3', rfl, hl3, hF3⟩ := k44_openF hK
  have h3 := hc.1 3 _ rfl
  have hadd : ∀ (b : Addr) (m : Nat), b.add (m + 3) = ⟨(b.add m).block, (b.add m).off + 3, none⟩ := fun b m => by
    unfold Addr.add
    rw [if_neg (by omega)]
    split
    · simp_all
    · simp; omega
  rw [Int.toNat_natCast, show i * k44.sz + 3 = i * 4 + 3 from rfl, hadd] at h3
  rw [e3] at h3
  have h4 := Option.some.inj h3
  injection h4 with h5 h6 h7
  subst h5 h7
  exact ⟨ad, A3, c3, t, hA, ht, e0, e1, e2, e3, hl3, hF3⟩
theorem part_New.calls (A : Option Addr) (c : Nat) (l : List S44) (ok : Nat → Prop) (w : World) (h : Kd.F k44 w ok A l.length l) (hT : taskA l = true) :
    Calls Tryz.prog 52 #[.slice A l.length c] w fun e w' => ∃ cs', e = .returned (.tuple #[.agg cs'.toArray, .int .i64 0]) ∧ Kd.FK k80 w' (nw ok w) (newP l) cs' ∧ Below w.heap.size w w' := by
  have hu := Tryz.underlying80
  have hu2 := Tryz.underlying44
  have hl8 : l.length ≤ 8 := by have := hT; unfold taskA at this; rw [Bool.and_eq_true] at this; exact of_decide_eq_true this.2
  have HTA := Aside0.mk hT
  have H := Aside0.mk (Kd.F_bound h)
  clear h hT
  go_enter Tryz.func52, Tryz.ntmps52
  go_wp2_with fail
  refine (task_All.calls A c l _ (Kd.F_now (Kd.F_alloc H.out _))).mono ?_; rintro e w2 ⟨rfl, hb2⟩
  rw [HTA.out]
  have hR2 := blk_below (blk_new w (.cells #[.slice none 0 0, .slice none 0 0, .slice none 0 0, .slice none 0 0, .slice none 0 0] 80)) hb2
  have hbA := below_step bl1 hb2
  have hs2 := hb2.size
  rw [alsz] at hs2
  clear hb2
  have hX2 := blk_new w2 (.cells #[.slice none 0 0, .slice none 0 0, .slice none 0 0, .slice none 0 0, .slice none 0 0] 80)
  have hRa := blk_al hR2 (.cells #[.slice none 0 0, .slice none 0 0, .slice none 0 0, .slice none 0 0, .slice none 0 0] 80)
  have hba := below_alloc hbA (.cells #[.slice none 0 0, .slice none 0 0, .slice none 0 0, .slice none 0 0, .slice none 0 0] 80)
  go_wp2_with ((with_reducible refine gate_store (t := 80) (p := 4) (v := .tmp 11) rfl ?_); refine stB (w0 := w) (base := w.heap.size) (seg := [.slice none 0 0, .slice none 0 0, .slice none 0 0, .slice none 0 0, .slice none 0 0]) (cs' := [.slice none 0 0, .slice none 0 0, .slice none 0 0, .slice none 0 0, .slice none 0 0]) hX2 hba (by omega) (h := fun w3 hX3 hb3 hg3 => ?_))
  have hR3 := blk_grown hRa hg3 (fun he => by have h1 : w.heap.size = w2.heap.size := Option.some.inj he; omega)
  have hs3 := hg3.size
  rw [alsz] at hs3
  generalize hgx : w2.heap.size = gx at hX3 ⊢
  clear hX2 hRa hba hR2 hg3
  go_loopg [14] l.length (fun k v14 wr => ∃ (i : Nat) (cs : List Value), i + k = l.length ∧ v14 = .int .i64 i ∧ wr.heap[gx]? = some (.cells cs.toArray 80 (0, 0)) ∧ Kd.FK k80 wr (fun k => (ok k ∧ k < w.heap.size) ∨ gx + 1 ≤ k) (newP (l.take i)) cs ∧ Below w.heap.size w wr ∧ wr.heap[w.heap.size]? = some (.cells #[.slice none 0 0, .slice none 0 0, .slice none 0 0, .slice none 0 0, .slice none 0 0] 80 (0, 0)))
  case atStart => exact ⟨0, _, by omega, by go_num, hX3, k80_zero _ _, hb3, hR3⟩
  case round =>
    obtain ⟨i, cs, hi, rfl, hX, hF, hb, hR⟩ := hrel
    have hF0 := Aside0.mk hF
    obtain ⟨B0, d0, B1, d1, B2, d2, B3, d3, B4, d4, rfl, l0, g0, l1, g1, l2, g2, l3, g3, l4, g4⟩ := k80_openF hF
    clear hF g0 g1 g2 g3 g4
    by_cases ci : i < l.length
    · obtain ⟨ad, A3, c3, t, rfl, ht, e0, e1, e2, e3, hl3, hS⟩ := el44F (Kd.F_below H.out hb) i ci
      have HS := Aside0.mk hS
      clear hS
      obtain ⟨x0, x1, x2, x3, x4⟩ := bx5a hX
      go_wp2_with fail
      have hw2 : (wr.alloc (.cells #[.int .i64 t.f0, .int .i64 t.f1, .int .i64 t.f2, .slice A3 t.f3.length c3] 44)).heap.size = wr.heap.size + 1 := alsz
      have hgl := blk_lt hX
      refine (part_Add.calls (newP (l.take i)) [.slice B0 (newP (l.take i)).f0.length d0, .slice B1 (newP (l.take i)).f1.length d1, .slice B2 (newP (l.take i)).f2.length d2, .slice B3 (newP (l.take i)).f3.length d3, .slice B4 (newP (l.take i)).f4.length d4] t [.int .i64 t.f0, .int .i64 t.f1, .int .i64 t.f2, .slice A3 t.f3.length c3] (fun k => (ok k ∧ k < w.heap.size) ∨ gx + 1 ≤ k) _ (Kd.FK_below hF0.out bl1) (k44_mkF _ _ t hl3 (Kd.F_mono (Kd.F_below HS.out bl1) (fun k hk => Or.inl hk))) (partR_new (taskA_take HTA.out i)) (by rw [← ht.out]; exact taskA_task HTA.out ci) (by show (l.take i).length < 8; rw [List.length_take]; omega)).mono ?_
      rintro e w5 ⟨cs5, rfl, hF5, hb5⟩
      have hF5' := Aside0.mk hF5
      obtain ⟨C0, e0', C1, e1', C2, e2', C3, e3', C4, e4', rfl, -, -, -, -, -, -, -, -, -, -⟩ := k80_openF hF5
      clear hF5
      have hX5 := blk_below (blk_al hX _) hb5
      have hR5 := blk_below (blk_al hR _) hb5
      have hb5w := Below.trans (below_alloc hb _) (Below.mono hb5 (by rw [hw2]; omega))
      go_wp2_with ((with_reducible refine gate_store (t := 80) (p := 4) (v := .tmp 22) rfl ?_); refine stB (w0 := w) (base := w.heap.size) (seg := [.slice C0 (addP (newP (l.take i)) t).f0.length e0', .slice C1 (addP (newP (l.take i)) t).f1.length e1', .slice C2 (addP (newP (l.take i)) t).f2.length e2', .slice C3 (addP (newP (l.take i)) t).f3.length e3', .slice C4 (addP (newP (l.take i)) t).f4.length e4']) (cs' := [.slice C0 (addP (newP (l.take i)) t).f0.length e0', .slice C1 (addP (newP (l.take i)) t).f1.length e1', .slice C2 (addP (newP (l.take i)) t).f2.length e2', .slice C3 (addP (newP (l.take i)) t).f3.length e3', .slice C4 (addP (newP (l.take i)) t).f4.length e4']) hX5 hb5w (by omega) (h := fun w6 hX6 hb6 hg6 => ?_))
      go_roundg (l.length - i - 1)
      case measure => omega
      case rel =>
        have hsn : newP (l.take (i + 1)) = addP (newP (l.take i)) t := by rw [List.take_succ_eq_append_getElem ci, ht.out, newP_snoc]
        refine ⟨i + 1, _, by omega, by go_num, hX6, ?_, hb6, blk_grown hR5 hg6 (fun he => by have := Option.some.inj he; omega)⟩
        rw [hsn]
        exact Kd.FK_mono (Kd.FK_grown (Kd.FK_mono (ok' := fun k => (ok k ∧ k < w.heap.size) ∨ gx + 1 ≤ k) hF5'.out (fun k hk => hk.elim (fun h => h) (fun h => Or.inr (by rw [hw2] at h; omega)))) hg6 (fun k hk he => by have := Option.some.inj he; omega)) (fun k hk => hk)
    · have : i = l.length := by omega
      subst this
      have hl := List.take_length (l := l)
      have hFf := hF0.out
      rw [hl] at hX hFf
      obtain ⟨x0, x1, x2, x3, x4⟩ := bx5 hX
      go_wp2_with ((with_reducible refine gate_store (t := 80) (p := 2) (v := .tmp 25) rfl ?_); refine stB (w0 := w) (base := w.heap.size) (seg := [.slice B0 (newP l).f0.length d0, .slice B1 (newP l).f1.length d1, .slice B2 (newP l).f2.length d2, .slice B3 (newP l).f3.length d3, .slice B4 (newP l).f4.length d4]) (cs' := [.slice B0 (newP l).f0.length d0, .slice B1 (newP l).f1.length d1, .slice B2 (newP l).f2.length d2, .slice B3 (newP l).f3.length d3, .slice B4 (newP l).f4.length d4]) hR hb (Nat.le_refl _) (h := fun w6 hR6 hb6 hg6 => ?_))
      (try simp only [Exit.inBlock, Exit.then])
      refine bodyPost_ret (results_list (rs := [.cell 2 80, .tmp 3]) rfl (by simp) (.cell _ 80 _ (0, 0) _ rfl hR6 Tryz.underlying80 rfl (by kernel_rfl) (.tmp .nil))) rfl ?_
      refine ⟨_, rfl, ?_, hb6⟩
      exact Kd.FK_mono (Kd.FK_grown hFf hg6 (fun k hk he => by have := Option.some.inj he; omega)) (fun k hk => hk.elim (fun h => Or.inl h.1) (fun h => Or.inr (by omega)))
end Go.Proofs.YtmngaagojkihbaaGreat.FTop
