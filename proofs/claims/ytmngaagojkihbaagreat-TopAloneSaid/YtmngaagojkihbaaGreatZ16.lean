/- Contracts of functions that the statement TopAlone reaches, and plain lemmas. No condition. -/
import Derived.Test.YtmngaagojkihbaaGreatZ15
namespace Go.Proofs.YtmngaagojkihbaaGreat.FTop
open Go.RowKit Go.Proofs.YtmngaagojkihbaaGreatW.PrintWords Go.Proofs.YtmngaagojkihbaaGreatW.PrintLast Go.Proofs.YtmngaagojkihbaaGreatW.PrintMore
attribute [local go_sem] max2_int min2_int max_two min_two
set_option linter.unusedVariables false
set_option linter.unusedSimpArgs false
set_option maxHeartbeats 8000000
set_option maxRecDepth 100000
def ofStep (ws : List S153) (last at_ part : Int) : List S153 :=
  if part = -1 then ws
  else if part = last then ws.set (ws.length - 1) ⟨(ws.getD (ws.length - 1) z153).f0, (ws.getD (ws.length - 1) z153).f1, (ws.getD (ws.length - 1) z153).f2 + 1⟩
  else ws ++ [⟨part, at_, 1⟩]
section
variable {g n cap i base : Nat} {ops : Array Oper} {rest : List Oper} {o : Oper} {a : Act} {Q : Exit → Act → World → Prop} {w0 W : World} {xo pp : Operand} {ok : Nat → Prop} {xs : List S153} {x : S153} {q : Int}
theorem st153 (HO : Kd.N k153 153 W base ok (.slice (some ⟨g, 0, none⟩) n cap) xs) (hi : i < n) (hxi : xs.getD i z153 = x) (HB : Below base w0 W)
    (ho : o.op = .store 3 pp xo := by rfl) (hgd : o.guard = none := by rfl) (hN : o.dst = none := by rfl) (hp : a.eval pp = .pointer (some ⟨g, i * 3 + 2, none⟩) := by rfl) (hx : a.eval xo = .int .i64 q := by rfl)
    (h : ∀ w1, Kd.N k153 153 w1 base ok (.slice (some ⟨g, 0, none⟩) n cap) (xs.set i ⟨x.f0, x.f1, q⟩) → Below base w0 w1 → W.grownBy w1 (some g) → wpList Tryz.prog ops Q rest a w1) : wpList Tryz.prog ops Q (o :: rest) a W := by
  obtain ⟨c, hcl, hM, hcc, _⟩ := Kd.N_elem HO z153 (i : Int) (by omega) (by omega)
  rw [Int.toNat_natCast, hxi] at hM
  obtain rfl := k153_open (Kd.FK_now hM)
  exact Kd.N_store k153 (w0 := w0) base hN hgd 3 pp xo ho 153 (i : Int) 2 xs ⟨x.f0, x.f1, q⟩ (.int .i64 q) [.int .i64 q] _ ok (fun _ => False) hp (by rw [Int.toNat_natCast]; rfl) hx rfl (by kernel_rfl) (by simp [Value.oneCell']) HO (by omega) (by omega) hcl hcc (by show 2 + 1 ≤ 3; omega) (k153_mkF _ _ _) (fun k hk => hk.elim) HB (by rw [Int.toNat_natCast]; exact h)
end
theorem ofs1.calls (base : Nat) (at_ part last fr : Int) (gl gt : Nat) (v : Value) (ws : List S153) (w : World) (hbs : base ≤ w.heap.size) (hgl : base ≤ gl) (hgt : base ≤ gt) (hne : gl ≠ gt)
    (hL : w.heap[gl]? = some (.cells #[.int .i64 last] 3 (0, 0))) (hT : w.heap[gt]? = some (.cells #[.int .i64 fr, v] 61 (0, 0))) (hN : Kd.N k153 153 w base (fun k => base ≤ k ∧ k ≠ gl ∧ k ≠ gt) v ws) (hw : last ≠ -1 → 0 < ws.length) (hlen : ws.length ≤ 1000) (hf2 : ∀ x ∈ ws, 0 ≤ x.f2 ∧ x.f2 ≤ 1000) :
    Calls Tryz.prog 88 #[.int .i64 at_, .int .i64 part, .pointer (some ⟨gl, 0, none⟩), .pointer (some ⟨gt, 0, none⟩)] w fun e w' => e = .returned (.tuple #[]) ∧ ∃ v', w'.heap[gl]? = some (.cells #[.int .i64 part] 3 (0, 0)) ∧ w'.heap[gt]? = some (.cells #[.int .i64 fr, v'] 61 (0, 0)) ∧ Kd.N k153 153 w' base (fun k => base ≤ k ∧ k ≠ gl ∧ k ≠ gt) v' (ofStep ws last at_ part) ∧ Below base w w' := by
  have hu := Tryz.underlying61
  have hu2 := Tryz.underlying153
  have HN := Aside0.mk hN
  have HF2 := Aside0.mk hf2
  obtain ⟨A, c, rfl⟩ := Kd.N_slice hN
  have hgl0 := blk_lt hL
  have hgt0 := blk_lt hT
  clear hN hf2
  have x0 := bx1 hL
  obtain ⟨y0, y1⟩ := bx2 hT
  go_enter Tryz.func88, Tryz.ntmps88
  have hbr := Below.refl base w
  by_cases c1 : part = -1
  · have hv := Aside0.mk (show ofStep ws last at_ part = ws from if_pos c1)
    have d1 : (part == -1) = true := by simpa using c1
    have d2 : (part != -1) = false := by simpa using c1
    clear c1
    cases d3 : (part == last) <;>
    · go_wp2_with ((with_reducible refine gate_store (t := 3) (p := 2) (v := .tmp 35) rfl ?_); refine stB (w0 := w) (base := base) (seg := [.int .i64 part]) (cs' := [.int .i64 part]) hL hbr hgl (h := fun wy hLy hby hgy => ?_))
      go_end0
      exact ⟨rfl, .slice A ws.length c, hLy, blk_grown hT hgy (fun he => by have := Option.some.inj he; omega), by rw [hv.out]; exact Kd.N_grown HN.out hgy (fun k hk he => hk.2.1 (Option.some.inj he)), hby⟩
  · have d1 : (part == -1) = false := by simpa using c1
    have d2 : (part != -1) = true := by simpa using c1
    by_cases c2 : part = last
    · have hpos := hw (by rw [← c2]; exact c1)
      have hv := Aside0.mk (show ofStep ws last at_ part = ws.set (ws.length - 1) ⟨(ws.getD (ws.length - 1) z153).f0, (ws.getD (ws.length - 1) z153).f1, (ws.getD (ws.length - 1) z153).f2 + 1⟩ by unfold ofStep; rw [if_neg c1, if_pos c2])
      have d3 : (part == last) = true := by simpa using c2
      clear c1 c2
      obtain ⟨g, cap, hg1, hbg, hgg, -⟩ := Kd.N_form HN.out hpos
      injection hg1 with hA1 hA2 hA3
      subst hA1 hA3
      have hgn := HN.out.1 g rfl
      obtain ⟨ad, x, hax, hx, e0, e1, e2⟩ := el153 (Kd.N_reads' HN.out).2.2 (ws.length - 1) (by omega)
      obtain rfl := Option.some.inj hax
      have hxd : ws.getD (ws.length - 1) z153 = x := by rw [List.getD_eq_getElem?_getD, List.getElem?_eq_getElem (by omega), Option.getD_some, hx.out]
      have hxb := HF2.out x (by rw [← hx.out]; exact List.getElem_mem _)
      have hln : (ws.length : Int) - 1 = ((ws.length - 1 : Nat) : Int) := by omega
      have hc2 : w.cell? ⟨g, (ws.length - 1) * 3 + 2, none⟩ = some (.int .i64 x.f2) := by rw [add_plain] at e2; simpa using e2
      have hgl1 : g ≠ gl := hgn.2.1
      have hgt1 : g ≠ gt := hgn.2.2
      go_wp2_with (first
        | ((with_reducible refine gate_store (t := 3) (p := 24) (v := .tmp 22) rfl ?_); refine st153 (w0 := w) (i := ws.length - 1) (x := x) (q := x.f2 + 1) HN.out (by omega) hxd hbr (h := fun w7 hN7 hb7 hg7 => ?_); (have hT7 := blk_grown hT hg7 (fun he => hgt1 (Option.some.inj he).symm)); (have hL7 := blk_grown hL hg7 (fun he => hgl1 (Option.some.inj he).symm)); (have HN7 := Aside0.mk hN7); clear hN7)
        | ((with_reducible refine gate_store (t := 3) (p := 2) (v := .tmp 35) rfl ?_); refine stB (w0 := w) (base := base) (seg := [.int .i64 part]) (cs' := [.int .i64 part]) hL7 hb7 hgl (h := fun wy hLy hby hgy => ?_)))
      go_end0
      exact ⟨rfl, hLy, .slice (some ⟨g, 0, none⟩) ws.length c, blk_grown hT7 hgy (fun he => hne (Option.some.inj he).symm), by rw [hv.out, hxd]; exact Kd.N_grown HN7.out hgy (fun k hk he => hk.2.1 (Option.some.inj he)), hby⟩
    · have hv := Aside0.mk (show ofStep ws last at_ part = ws ++ [⟨part, at_, 1⟩] by unfold ofStep; rw [if_neg c1, if_neg c2])
      have d3 : (part == last) = false := by simpa using c2
      clear c1 c2
      have hTa := blk_al hT (.cells #[.int .i64 part, .int .i64 at_, .int .i64 1] 153)
      have hLa := blk_al hL (.cells #[.int .i64 part, .int .i64 at_, .int .i64 1] 153)
      go_wp2_with (first
        | ((with_reducible refine gate_builtin (b := .append) (xs := #[.tmp 28, .tmp 32]) rfl ?_); at_builtin; refine apN row153 (w0 := w) (cs := [.int .i64 part, .int .i64 at_, .int .i64 1]) (p := ⟨part, at_, 1⟩) (okp := fun _ => False) HN.out (k153_mkF _ _ _) (fun k hk => hk.elim) (fun k hk => ⟨by omega, by omega, by omega⟩) hbr hbs (by omega) (h := fun v7 w7 hN7 hb7 hg7 hat7 => ?_); (have hT7 := blk_grown hT hg7 (fun he => by have := HN.out.1 _ he.symm; exact this.2.2 rfl)); (have hL7 := blk_grown hL hg7 (fun he => by have := HN.out.1 _ he.symm; exact this.2.1 rfl)); (have HN7 := Aside0.mk hN7); (obtain ⟨A7, c7, rfl⟩ := Kd.N_slice hN7); clear hN7)
        | ((with_reducible refine gate_store (t := 59) (p := 34) (v := .tmp 33) rfl ?_); refine stB (w0 := w) (base := base) (seg := [.slice A7 (ws.length + 1) c7]) (cs' := [.int .i64 fr, .slice A7 (ws.length + 1) c7]) hT7 hb7 hgt (h := fun w8 hT8 hb8 hg8 => ?_); (have hL8 := blk_grown hL7 hg8 (fun he => hne (Option.some.inj he))); (have HN8 := Aside0.mk (Kd.N_grown HN7.out hg8 (fun k hk he => hk.2.2 (Option.some.inj he)))))
        | ((with_reducible refine gate_store (t := 3) (p := 2) (v := .tmp 35) rfl ?_); refine stB (w0 := w) (base := base) (seg := [.int .i64 part]) (cs' := [.int .i64 part]) hL8 hb8 hgl (h := fun wy hLy hby hgy => ?_)))
      go_end0
      exact ⟨rfl, .slice A7 (ws.length + 1) c7, hLy, blk_grown hT8 hgy (fun he => hne (Option.some.inj he).symm), by rw [hv.out]; exact Kd.N_grown (by have h9 := HN8.out; rw [List.length_append] at h9; exact h9) hgy (fun k hk he => hk.2.1 (Option.some.inj he)), hby⟩
def ofGo : List Int → Int → Int → List S153 → List S153
  | [], _, _, ws => ws
  | p :: r, at_, last, ws => ofGo r (at_ + 1) p (ofStep ws last at_ p)
def ofT (l : List Int) : List S153 := ofGo l 0 (-1) []
theorem ofStep_len (ws : List S153) (last at_ p : Int) : ws.length ≤ (ofStep ws last at_ p).length ∧ (ofStep ws last at_ p).length ≤ ws.length + 1 ∧ (p ≠ -1 → (last ≠ -1 → 0 < ws.length) → 0 < (ofStep ws last at_ p).length) := by
  unfold ofStep
  by_cases c1 : p = -1
  · rw [if_pos c1]; exact ⟨Nat.le_refl _, by omega, fun h => absurd c1 h⟩
  · rw [if_neg c1]
    by_cases c2 : p = last
    · rw [if_pos c2, List.length_set]; exact ⟨Nat.le_refl _, by omega, fun h h2 => h2 (by rw [← c2]; exact h)⟩
    · rw [if_neg c2, List.length_append]; exact ⟨by omega, by show _ + 1 ≤ _; omega, fun _ _ => by show 0 < _ + 1; omega⟩
theorem ofStep_f2 (ws : List S153) (last at_ p : Int) (n : Int) (hn : 0 ≤ n) (h : ∀ x ∈ ws, 0 ≤ x.f2 ∧ x.f2 ≤ n) : ∀ x ∈ ofStep ws last at_ p, 0 ≤ x.f2 ∧ x.f2 ≤ n + 1 := by
  unfold ofStep
  by_cases c1 : p = -1
  · rw [if_pos c1]; exact fun x hx => ⟨(h x hx).1, by have := (h x hx).2; omega⟩
  · rw [if_neg c1]
    by_cases c2 : p = last
    · rw [if_pos c2]
      intro x hx
      rcases List.mem_or_eq_of_mem_set hx with hx | rfl
      · exact ⟨(h x hx).1, by have := (h x hx).2; omega⟩
      · show 0 ≤ (ws.getD (ws.length - 1) z153).f2 + 1 ∧ (ws.getD (ws.length - 1) z153).f2 + 1 ≤ n + 1
        by_cases hl : ws.length - 1 < ws.length
        · have := h (ws.getD (ws.length - 1) z153) (by rw [List.getD_eq_getElem?_getD, List.getElem?_eq_getElem hl, Option.getD_some]; exact List.getElem_mem _)
          omega
        · rw [List.getD_eq_getElem?_getD, List.getElem?_eq_none (by omega), Option.getD_none]
          show 0 ≤ (0 : Int) + 1 ∧ (0 : Int) + 1 ≤ n + 1
          omega
    · rw [if_neg c2]
      intro x hx
      rcases List.mem_append.1 hx with hx | hx
      · exact ⟨(h x hx).1, by have := (h x hx).2; omega⟩
      · obtain rfl := List.mem_singleton.1 hx
        exact ⟨by show (0 : Int) ≤ 1; omega, by show (1 : Int) ≤ n + 1; omega⟩
theorem table_Of.calls (A : Option Addr) (c : Nat) (l : List Int) (w : World) (h : Kd.C (Kd.int .i64) w A l.length l) (h1 : 1 ≤ l.length) (h2 : l.length ≤ 240) (hr : ∀ x ∈ l, -1 ≤ x ∧ x < 4) :
    Calls Tryz.prog 48 #[.slice A l.length c] w fun e w' => ∃ v, e = .returned (.tuple #[.agg #[.int .i64 l.length, v], .int .i64 0]) ∧ Kd.N k153 153 w' w.heap.size (fun k => w.heap.size < k) v (ofT l) ∧ Below w.heap.size w w' := by
  have hu := Tryz.underlying61
  have hu2 := Tryz.underlying33
  have hu3 := Tryz.underlying153
  have H := Aside0.mk h
  have HR := Aside0.mk hr
  clear h hr
  have hlz : ((l.length : Int) == 0) = false := beq_eq_false_iff_ne.2 (by omega)
  have hl24 : ¬ (240 : Int) < (l.length : Int) := by omega
  have hR4 := Aside0.mk (blk_al (blk_al (blk_new w (.cells #[.int .i64 0, .slice none 0 0] 61)) (.cells #[.int .i64 l.length, .slice none 0 0] 61)) (.cells #[.int .i64 (-1)] 3))
  have hT4 := Aside0.mk (blk_al (blk_new (w.alloc (.cells #[.int .i64 0, .slice none 0 0] 61)) (.cells #[.int .i64 l.length, .slice none 0 0] 61)) (.cells #[.int .i64 (-1)] 3))
  have hL4' := Aside0.mk (blk_new ((w.alloc (.cells #[.int .i64 0, .slice none 0 0] 61)).alloc (.cells #[.int .i64 l.length, .slice none 0 0] 61)) (.cells #[.int .i64 (-1)] 3))
  have hb4' := Aside0.mk (@bl3 w (.cells #[.int .i64 0, .slice none 0 0] 61) (.cells #[.int .i64 l.length, .slice none 0 0] 61) (.cells #[.int .i64 (-1)] 3))
  have z1 : (w.alloc (.cells #[.int .i64 0, .slice none 0 0] 61)).heap.size = w.heap.size + 1 := alsz
  have z2 : ((w.alloc (.cells #[.int .i64 0, .slice none 0 0] 61)).alloc (.cells #[.int .i64 l.length, .slice none 0 0] 61)).heap.size = w.heap.size + 1 + 1 := by rw [alsz, z1]
  rw [z1] at hT4
  rw [z2] at hL4'
  clear z1 z2
  go_enter Tryz.func48, Tryz.ntmps48
  go_wp2_with fail
  generalize hgl : w.heap.size + 1 + 1 = gl at hL4' ⊢
  go_loopg [24] l.length (fun k v24 wr => ∃ (i : Nat) (last : Int) (ws : List S153) (v : Value), i + k = l.length ∧ v24 = .int .i64 i ∧ Aside0 (ofGo (l.drop i) i last ws = ofT l) ∧ (last ≠ -1 → 0 < ws.length) ∧ ws.length ≤ i ∧ Aside0 (∀ x ∈ ws, 0 ≤ x.f2 ∧ x.f2 ≤ i) ∧ Aside0 (wr.heap[gl]? = some (.cells #[.int .i64 last] 3 (0, 0))) ∧ Aside0 (wr.heap[w.heap.size + 1]? = some (.cells #[.int .i64 l.length, v] 61 (0, 0))) ∧ Aside0 (Kd.N k153 153 wr (w.heap.size + 1) (fun k => w.heap.size + 1 ≤ k ∧ k ≠ gl ∧ k ≠ w.heap.size + 1) v ws) ∧ Aside0 (wr.heap[w.heap.size]? = some (.cells #[.int .i64 0, .slice none 0 0] 61 (0, 0))) ∧ Below w.heap.size w wr)
  case atStart => exact ⟨0, -1, [], _, by omega, rfl, ⟨rfl⟩, fun h => absurd rfl h, Nat.le_refl _, ⟨fun x hx => nomatch hx⟩, hL4', hT4, ⟨Kd.N_nil _ _ _ _ _⟩, hR4, hb4'.out⟩
  case round =>
    obtain ⟨i, last, ws, v, hi, rfl, ha, hlw, hwl, hf2, hL, hT, hN, hRc, hbr⟩ := hrel
    by_cases ci : i < l.length
    · obtain ⟨ad, t, rfl, ht, h0⟩ := elI (Kd.C_below H.out hbr) i ci
      obtain ⟨t0, t1⟩ := HR.out t (by rw [← ht.out]; exact List.getElem_mem _)
      have hd := Aside0.mk (show l.drop i = t :: l.drop (i + 1) by rw [List.drop_eq_getElem_cons ci, ht.out])
      have t2 : ¬ t < -1 := by omega
      have t3 : ¬ 4 ≤ t := by omega
      clear t0 t1
      go_wp2_with fail
      have hbs := hbr.size
      have hglt := blk_lt hL.out
      have hlz2 := Aside0.mk (ofStep_len ws last i t)
      have hfz := Aside0.mk (ofStep_f2 ws last i t i (by omega) hf2.out)
      refine (ofs1.calls (w.heap.size + 1) i t last l.length gl (w.heap.size + 1) v ws wr (by omega) (by omega) (Nat.le_refl _) (by omega) hL.out hT.out hN.out hlw (by omega) (fun x hx => ⟨(hf2.out x hx).1, by have := (hf2.out x hx).2; omega⟩)).mono ?_; rintro e w2 ⟨rfl, v2, hL2, hT2, hN2, hb2⟩
      have hL2 := Aside0.mk hL2
      have hT2 := Aside0.mk hT2
      have hN2 := Aside0.mk hN2
      have hR2 := Aside0.mk (show w2.heap[w.heap.size]? = some (.cells #[.int .i64 0, .slice none 0 0] 61 (0, 0)) by rw [hb2.block _ (by omega)]; exact hRc.out)
      have hb3 := Below.trans hbr (Below.mono hb2 (by omega))
      have hab := Aside0.mk (show ofGo (l.drop (i + 1)) (i + 1 : Nat) t (ofStep ws last i t) = ofT l by have := ha.out; rw [hd.out] at this; exact this)
      clear hb2 ha hd hL hT hN hRc
      go_wp2
      go_roundg (l.length - i - 1)
      case measure => omega
      case rel =>
        obtain ⟨q0, q1, q2⟩ := hlz2.out
        exact ⟨i + 1, t, ofStep ws last i t, v2, by omega, by go_num, hab, fun ht => q2 ht hlw, by omega, ⟨fun x hx => by have := hfz.out x hx; omega⟩, hL2, hT2, hN2, hR2, hb3⟩
    · have : i = l.length := by omega
      subst this
      have hv := Aside0.mk (show ws = ofT l by have := ha.out; rw [List.drop_length] at this; exact this)
      obtain ⟨A7, c7, rfl⟩ := Kd.N_slice hN.out
      obtain ⟨x0, x1⟩ := bx2 hT.out
      clear ha
      go_wp2_with ((with_reducible refine gate_store (t := 61) (p := 2) (v := .tmp 41) rfl ?_); refine stB (w0 := w) (base := w.heap.size) (seg := [.int .i64 l.length, .slice A7 ws.length c7]) (cs' := [.int .i64 l.length, .slice A7 ws.length c7]) hRc.out hbr (Nat.le_refl _) (h := fun wy hBy hby hgy => ?_))
      (try simp only [Exit.inBlock, Exit.then])
      refine bodyPost_ret (results_list (rs := [.cell 2 61, .tmp 3]) rfl (by simp) (.cell _ 61 _ (0, 0) _ rfl hBy Tryz.underlying61 rfl (by kernel_rfl) (.tmp .nil))) rfl ?_
      refine ⟨_, rfl, ?_, hby⟩
      rw [← hv.out]
      exact Kd.N_grown (Kd.N_mono (N_rebase hN.out (Nat.le_succ _)) (fun k hk => by omega)) hgy (fun k hk he => by have := Option.some.inj he; omega)
def frG : Int → List S85 → Option Int
  | fr, [] => some fr
  | fr, f :: r => if 240 < lcmI fr f.f0 then none else frG (lcmI fr f.f0) r
def frI (l : List S85) : Int × Int := match frG 1 l with | some fr => (fr, 0) | none => (0, 5)
theorem frI_some {l : List S85} {fr : Int} (h : frG 1 l = some fr) : frI l = (fr, 0) := by unfold frI; rw [h]
theorem frI_none {l : List S85} (h : frG 1 l = none) : frI l = (0, 5) := by unfold frI; rw [h]
theorem synth_Frame.calls (A : Option Addr) (c : Nat) (l : List S85) (w : World) (h : Kd.C k85 w A l.length l) (h4 : l.length ≤ 4) (hs : ∀ f ∈ l, supR f = true) : Ret 85 #[.slice A l.length c] w (.tuple #[.int .i64 (frI l).1, .int .i64 (frI l).2]) := by
  have hu := Tryz.underlying62
  have hu2 := Tryz.underlying85
  have H := Aside0.mk h
  have HS := Aside0.mk hs
  have h40 : ¬ (4 : Int) < l.length := by omega
  clear h hs
  go_enter Tryz.func85, Tryz.ntmps85
  go_wp2
  go_loopg [16] l.length (fun k v16 wr => ∃ (i : Nat), i + k = l.length ∧ v16 = .int .i64 i ∧ Below w.heap.size w wr)
  case atStart => exact ⟨0, by omega, rfl, bl0⟩
  case round =>
    obtain ⟨i, hi, rfl, hbr⟩ := hrel
    by_cases ci : i < l.length
    · obtain ⟨ad, x, rfl, hx, e0, e1⟩ := el85 (Kd.C_below H.out hbr) i ci
      have hxs := Aside0.mk (show supR x = true from HS.out x (by rw [← hx.out]; exact List.getElem_mem _))
      go_wp2_with fail
      refine (supply_Right.calls x _).mono ?_; rintro e w3 ⟨rfl, hb3⟩
      rw [hxs.out]
      have hbB := below_step (below_alloc hbr _) hb3
      go_wp2
      go_roundg (l.length - i - 1)
      case measure => omega
      case rel => exact ⟨i + 1, by omega, by go_num, hbB⟩
    · have hbw := hbr
      clear hbr
      obtain ⟨W0, rfl⟩ : ∃ W0, W0 = wr := ⟨_, rfl⟩
      go_wp2
      go_loopg [6, 26] l.length (fun k v6 v26 wr => ∃ (i : Nat) (fr : Int), i + k = l.length ∧ v26 = .int .i64 i ∧ v6 = .int .i64 fr ∧ Aside0 (frG fr (l.drop i) = frG 1 l) ∧ 1 ≤ fr ∧ fr ≤ 240 ∧ Below w.heap.size w wr)
      case atStart => exact ⟨0, 1, by omega, rfl, rfl, ⟨rfl⟩, by omega, by omega, hbw⟩
      case round =>
        obtain ⟨i, fr, hi, rfl, rfl, ha, hf1, hf2, hbr⟩ := hrel
        by_cases ci : i < l.length
        · obtain ⟨ad, x, rfl, hx, e0, e1⟩ := el85 (Kd.C_below H.out hbr) i ci
          have hxs := supR_iff.1 (show supR x = true from HS.out x (by rw [← hx.out]; exact List.getElem_mem _))
          have hd := Aside0.mk (show l.drop i = x :: l.drop (i + 1) by rw [List.drop_eq_getElem_cons ci, hx.out])
          have hb1 := below_alloc hbr (.cells #[.int .i64 x.f0, .int .i64 x.f1] 85)
          obtain ⟨z0, z1⟩ := bx2 (blk_new wr (.cells #[.int .i64 x.f0, .int .i64 x.f1] 85))
          go_wp2_with fail
          have hlb := lcmI_bd hf1 (show 1 ≤ x.f0 by omega)
          have hp := Int.mul_le_mul hf2 (show x.f0 ≤ 200 by omega) (by omega) (by omega)
          refine (arith_Lcm.calls fr x.f0 _ hf1 (by omega) (by omega) (by omega)).mono ?_; rintro e w6 ⟨rfl, hb6⟩
          have hbB := below_step hb1 hb6
          have hab := Aside0.mk (show (if 240 < lcmI fr x.f0 then none else frG (lcmI fr x.f0) (l.drop (i + 1))) = frG 1 l by have := ha.out; rw [hd.out] at this; exact this)
          generalize lcmI fr x.f0 = L at hab hlb ⊢
          have hL : L ≤ 48000 := by omega
          have hL1 := hlb.1
          clear hlb hp ha z0 z1 e0 e1 hb6
          by_cases cL : 240 < L
          · have hv := Aside0.mk (frI_none (by rw [← hab.out, if_pos cL]))
            go_wp2
            go_ret2
            exact ⟨by rw [hv.out]; rfl, hbB⟩
          · have hs2 := Aside0.mk (show frG L (l.drop (i + 1)) = frG 1 l by rw [← hab.out, if_neg cL])
            go_wp2
            go_roundg (l.length - i - 1)
            case measure => omega
            case rel => exact ⟨i + 1, L, by omega, by go_num, rfl, hs2, hL1, by omega, hbB⟩
        · have : i = l.length := by omega
          subst this
          have hv := Aside0.mk (frI_some (l := l) (fr := fr) (by rw [← ha.out, List.drop_length]; rfl))
          go_wp2
          go_ret2
          exact ⟨by rw [hv.out]; rfl, hbr⟩
def synth_begin.T7 : Bool × List (List Nat × List Nat) := (true, [([], []), ([0], [0]), ([1], [1]), ([2], [2]), ([], []), ([], []), ([5], [5]), ([3, 4, 0, 1, 2, 3, 4, 5, 6], [3, 4]), ([7, 6, 0, 1, 2, 3, 4, 5, 6], [6, 7])])
def synth_begin.B7 : List Nat := [0, 1, 3, 7, 0, 0, 32, 127, 255]
theorem synth_begin.tab7 : rtab .any (opsOf Tryz.f86 7) = synth_begin.T7 := by kernel_rfl
theorem synth_begin.bits7 : waitsOk synth_begin.T7.2 synth_begin.B7 = true := by kernel_rfl
def begGo (t : Int) : List S85 → Nat → List Int → Option (List Int)
  | [], _, ws => some ws
  | f :: r, i, ws => if t % f.f0 = 0 then (if 0 < ws.getD i 0 then none else begGo t r (i + 1) (ws.set i f.f1)) else begGo t r (i + 1) ws
theorem begGo_len (t : Int) : ∀ (l : List S85) (i : Nat) (ws ws' : List Int), begGo t l i ws = some ws' → ws'.length = ws.length
  | [], _, ws, ws', h => by rw [← Option.some.inj h]
  | f :: r, i, ws, ws', h => by
    unfold begGo at h
    split at h
    · split at h
      · cases h
      · rw [begGo_len t r _ _ _ h, List.length_set]
    · exact begGo_len t r _ _ _ h
theorem synth_begin.calls (r : Option (List Int)) (w00 : World) (gy : Nat) (Al : Option Addr) (cl : Nat) (l : List S85) (v : Value) (ws : List Int) (t : Int) (w : World) (hC : Kd.C k85 w00 Al l.length l) (hs : ∀ f ∈ l, supR f = true) (hb0 : Below w00.heap.size w00 w)
    (hgy : w.heap[gy]? = some (.cells #[.slice Al l.length cl, v] 169 (0, 0))) (hg0 : w00.heap.size ≤ gy) (hN : Kd.N (Kd.int .i64) 3 w w00.heap.size (fun k => k ≠ gy) v ws) (hlen : ws.length = l.length) (h4 : l.length ≤ 4) (ht : 0 ≤ t) (ht2 : t ≤ 240) (hr : begGo t l 0 ws = r) :
    Calls Tryz.prog 86 #[.pointer (some ⟨gy, 0, none⟩), .int .i64 t] w fun e w' => e = .returned (.bool r.isSome) ∧ w'.heap[gy]? = some (.cells #[.slice Al l.length cl, v] 169 (0, 0)) ∧ (∀ ws', r = some ws' → Kd.N (Kd.int .i64) 3 w' w00.heap.size (fun k => k ≠ gy) v ws') ∧ Below w00.heap.size w00 w' ∧ Kept w w' (fun k => v.ownBlock = some k) := by
  have hu := Tryz.underlying62
  have hu2 := Tryz.underlying85
  have hu3 := Tryz.underlying169
  have hu4 := Tryz.underlying33
  have H := Aside0.mk hC
  have HS := Aside0.mk hs
  have HR := Aside0.mk hr
  have HL := Aside0.mk hlen
  obtain ⟨A, c, rfl⟩ := Kd.N_slice hN
  have HN := Aside0.mk hN
  have HY := Aside0.mk hgy
  clear hC hs hr hlen hN
  obtain ⟨y0, y1⟩ := bx2 hgy
  go_enter Tryz.func86, Tryz.ntmps86
  go_wp2
  go_loopg [12] l.length (fun k v12 wr => ∃ (i : Nat) (ws1 : List Int), i + k = l.length ∧ v12 = .int .i64 i ∧ Aside0 (begGo t (l.drop i) i ws1 = r) ∧ Aside0 (ws1.length = ws.length) ∧ Aside0 (wr.heap[gy]? = some (.cells #[.slice Al l.length cl, .slice A ws.length c] 169 (0, 0))) ∧ Aside0 (Kd.N (Kd.int .i64) 3 wr w00.heap.size (fun k => k ≠ gy) (.slice A ws.length c) ws1) ∧ Below w00.heap.size w00 wr ∧ Kept w wr (fun k => (Value.slice A ws.length c).ownBlock = some k))
  case atStart => exact ⟨0, ws, by omega, rfl, HR, ⟨rfl⟩, HY, HN, hb0, Kept.refl _ _⟩
  case round =>
    clear hb0 hgy y0 y1 HN HY HR
    obtain ⟨i, ws1, hi, rfl, ha, hl1, hY, hN, hbr, hsz⟩ := hrel
    obtain ⟨y0, y1⟩ := bx2 hY.out
    by_cases ci : i < l.length
    · obtain ⟨ad, x, rfl, hx, e0, e1⟩ := el85 (Kd.C_below H.out hbr) i ci
      have hxs := supR_iff.1 (show supR x = true from HS.out x (by rw [← hx.out]; exact List.getElem_mem _))
      have hd := Aside0.mk (show l.drop i = x :: l.drop (i + 1) by rw [List.drop_eq_getElem_cons ci, hx.out])
      have hx0 : ¬ x.f0 = 0 := by omega
      have hb1 := below_alloc hbr (.cells #[.int .i64 x.f0, .int .i64 x.f1] 85)
      have hY1 := Aside0.mk (blk_al hY.out (.cells #[.int .i64 x.f0, .int .i64 x.f1] 85))
      have hX1 := Aside0.mk (blk_new wr (.cells #[.int .i64 x.f0, .int .i64 x.f1] 85))
      have hN1 := Aside0.mk (Kd.N_alloc hN.out (.cells #[.int .i64 x.f0, .int .i64 x.f1] 85))
      have hk1 := Kept.alloc hsz (.cells #[.int .i64 x.f0, .int .i64 x.f1] 85)
      have hz1 : (wr.alloc (.cells #[.int .i64 x.f0, .int .i64 x.f1] 85)).heap.size = wr.heap.size + 1 := alsz
      by_cases cm : t % x.f0 = 0
      · have cm1 : (t % x.f0 == 0) = true := by simpa using cm
        have cm2 : (t % x.f0 != 0) = false := by simpa using cm
        have hab := Aside0.mk (show (if 0 < ws1.getD i 0 then none else begGo t (l.drop (i + 1)) (i + 1) (ws1.set i x.f1)) = r by have := ha.out; rw [hd.out] at this; exact (if_pos cm).symm.trans this)
        clear cm ha
        obtain ⟨g, cap, hg1, hbg, hgg, -⟩ := Kd.N_form hN1.out (by have := hl1.out; have := HL.out; omega)
        injection hg1 with hA1 hA2 hA3
        subst hA1 hA3
        clear hA2
        have hgy1 : g ≠ gy := hN1.out.1 g rfl
        obtain ⟨bd, q, hbd, hq, q0⟩ := elI (Kd.N_reads' hN1.out).2.2 i (by have := hl1.out; have := HL.out; omega)
        obtain rfl := Option.some.inj hbd
        rw [show (⟨g, 0, none⟩ : Addr).add i = ⟨g, i, none⟩ from by (unfold Addr.add; split <;> simp_all)] at q0
        have hqd : ws1.getD i 0 = q := by rw [List.getD_eq_getElem?_getD, List.getElem?_eq_getElem (by have := hl1.out; have := HL.out; omega), Option.getD_some, hq.out]
        rw [hqd] at hab
        obtain ⟨y2, y3⟩ := bx2 hY1.out
        obtain ⟨x2, x3⟩ := bx2 hX1.out
        have hil : i < ws.length := by have := HL.out; omega
        by_cases cq : 0 < q
        · have hv := Aside0.mk (show r = none by rw [← hab.out, if_pos cq])
          go_wp2
          go_ret
          exact ⟨by rw [hv.out]; rfl, hY1.out, (fun ws' h => by rw [hv.out] at h; cases h), hb1, Kept.alloc hsz _⟩
        · have hac := Aside0.mk (show begGo t (l.drop (i + 1)) (i + 1) (ws1.set i x.f1) = r by rw [← hab.out, if_neg cq])
          go_wp2
          generalize hW1 : wr.alloc (.cells #[.int .i64 x.f0, .int .i64 x.f1] 85) = W1 at hY1 hX1 hN1 hb1 hz1 hk1 x2 x3 y2 y3 q0 ⊢
          clear hW1
          refine st_ 9 (fun w' => Below W1.heap.size W1 w' ∧ w'.cell? (⟨gy, 1, none⟩) = some (.slice (some ⟨g, 0, none⟩) ws.length c) ∧ w'.cell? (⟨wr.heap.size, 1, none⟩) = some (.int .i64 x.f1)) [8] synth_begin.tab7 synth_begin.bits7 ⟨below_drew1 bl0, y3, x3⟩ (h := fun HT HW hHeld => ?_)
          repeat (first | refine pn_ HT (h := ?_) | refine tn_ HT HW hHeld (h := ?_) | refine zn_ HT (h := ?_))
          refine ln_ HT (h := fun K hK => ?_)
          refine stNI_step (w0 := w00) (Kd.N_below hN1.out (hHeld.1)) hil (Below.trans hb1 (Below.mono (hHeld.1) hb1.size)) (h := fun w6 hN6 hb6 hg6 => ?_)
          have hY6 := Aside0.mk (blk_grown (blk_below hY1.out (hHeld.1)) hg6 (fun he => hgy1 (Option.some.inj he).symm))
          have hk6 := Kept.of_grown hg6 (Kept.below hk1 (hHeld.1)) (fun k hk => Or.inl hk)
          refine hK.out _ _ ?_
          repeat (first | refine pn_ HT (h := ?_) | refine zn_ HT (h := ?_))
          refine dn_ HT (h := ?_)
          clear HT HW hHeld
          have hN6 := Aside0.mk hN6
          go_wp2
          go_roundg (l.length - i - 1)
          case measure => omega
          case rel => exact ⟨i + 1, ws1.set i x.f1, by omega, by go_num, hac, ⟨by rw [List.length_set]; exact hl1.out⟩, hY6, hN6, hb6, hk6⟩
      · have cm1 : (t % x.f0 == 0) = false := by simpa using cm
        have cm2 : (t % x.f0 != 0) = true := by simpa using cm
        have hab := Aside0.mk (show begGo t (l.drop (i + 1)) (i + 1) ws1 = r by have := ha.out; rw [hd.out] at this; exact (if_neg cm).symm.trans this)
        clear cm ha
        go_wp2
        go_roundg (l.length - i - 1)
        case measure => omega
        case rel => exact ⟨i + 1, ws1, by omega, by go_num, hab, hl1, hY1, hN1, hb1, hk1⟩
    · have : i = l.length := by omega
      subst this
      have hv := Aside0.mk (show r = some ws1 by rw [← ha.out, List.drop_length]; rfl)
      clear ha
      go_wp2
      go_ret
      exact ⟨by rw [hv.out]; rfl, hY.out, (fun ws' h => by rw [hv.out] at h; rw [← Option.some.inj h]; exact hN.out), hbr, hsz⟩
def synth_next.T5 : Bool × List (List Nat × List Nat) := (true, [([], []), ([], []), ([], []), ([2], [2]), ([1, 3], [1, 3]), ([0, 4], [0, 4]), ([], []), ([6], [6]), ([5, 7], [5, 7]), ([8, 0, 1, 2, 3, 4, 5, 6, 7, 8], [8])])
def synth_next.B5 : List Nat := [0, 0, 0, 4, 14, 31, 0, 64, 255, 511]
theorem synth_next.tab5 : rtab .any (opsOf Tryz.f87 5) = synth_next.T5 := by kernel_rfl
theorem synth_next.bits5 : waitsOk synth_next.T5.2 synth_next.B5 = true := by kernel_rfl
def nextGo (t : Int) : List S85 → Nat → List Int → Int → Int → Int
  | [], _, _, out, _ => out
  | f :: r, i, ws, out, due => if 0 < ws.getD i 0 ∧ (out = -1 ∨ t - t % f.f0 + f.f0 < due) then nextGo t r (i + 1) ws i (t - t % f.f0 + f.f0) else nextGo t r (i + 1) ws out due
def decW (ws : List Int) (x : Int) : List Int := if x = -1 then ws else ws.set x.toNat (ws.getD x.toNat 0 - 1)
theorem nextGo_range (t : Int) : ∀ (l : List S85) (i : Nat) (ws : List Int) (out due : Int), -1 ≤ out → out < i → -1 ≤ nextGo t l i ws out due ∧ nextGo t l i ws out due < i + l.length
  | [], i, ws, out, due, h0, h1 => ⟨h0, by show out < i + 0; omega⟩
  | f :: r, i, ws, out, due, h0, h1 => by
    unfold nextGo
    split
    · have := nextGo_range t r (i + 1) ws i (t - t % f.f0 + f.f0) (by omega) (by omega)
      exact ⟨this.1, by rw [List.length_cons]; omega⟩
    · have := nextGo_range t r (i + 1) ws out due h0 (by omega)
      exact ⟨this.1, by rw [List.length_cons]; omega⟩
theorem synth_next.calls (r : Int) (w00 : World) (gy : Nat) (Al : Option Addr) (cl : Nat) (l : List S85) (v : Value) (ws : List Int) (t : Int) (w : World) (hC : Kd.C k85 w00 Al l.length l) (hs : ∀ f ∈ l, supR f = true) (hb0 : Below w00.heap.size w00 w)
    (hgy : w.heap[gy]? = some (.cells #[.slice Al l.length cl, v] 169 (0, 0))) (hg0 : w00.heap.size ≤ gy) (hN : Kd.N (Kd.int .i64) 3 w w00.heap.size (fun k => k ≠ gy) v ws) (hlen : ws.length = l.length) (h4 : l.length ≤ 4) (ht : 0 ≤ t) (ht2 : t ≤ 240) (hwb : ∀ x ∈ ws, -1000 ≤ x ∧ x ≤ 200) (hr : nextGo t l 0 ws (-1) 0 = r) :
    Calls Tryz.prog 87 #[.pointer (some ⟨gy, 0, none⟩), .int .i64 t] w fun e w' => e = .returned (.int .i64 r) ∧ w'.heap[gy]? = some (.cells #[.slice Al l.length cl, v] 169 (0, 0)) ∧ Kd.N (Kd.int .i64) 3 w' w00.heap.size (fun k => k ≠ gy) v (decW ws r) ∧ Below w00.heap.size w00 w' ∧ Kept w w' (fun k => v.ownBlock = some k) := by
  have hu := Tryz.underlying62
  have hu2 := Tryz.underlying85
  have hu3 := Tryz.underlying169
  have hu4 := Tryz.underlying33
  have H := Aside0.mk hC
  have HS := Aside0.mk hs
  have HR := Aside0.mk hr
  have HL := Aside0.mk hlen
  have HWB := Aside0.mk hwb
  obtain ⟨A, c, rfl⟩ := Kd.N_slice hN
  have HN := Aside0.mk hN
  have HY := Aside0.mk hgy
  clear hC hs hr hlen hN hwb
  obtain ⟨y0, y1⟩ := bx2 hgy
  go_enter Tryz.func87, Tryz.ntmps87
  go_wp2
  go_loopg [5, 6, 15] l.length (fun k v5 v6 v15 wr => ∃ (i : Nat) (out due : Int), i + k = l.length ∧ v15 = .int .i64 i ∧ v5 = .int .i64 out ∧ v6 = .int .i64 due ∧ Aside0 (nextGo t (l.drop i) i ws out due = r) ∧ -1 ≤ out ∧ out < i ∧ 0 ≤ due ∧ due ≤ 1000 ∧ Below w.heap.size w wr)
  case atStart => exact ⟨0, -1, 0, by omega, rfl, rfl, rfl, HR, by omega, by omega, by omega, by omega, bl0⟩
  case round =>
    clear hgy y0 y1 HR
    obtain ⟨i, out, due, hi, rfl, rfl, rfl, ha, ho1, ho2, hd1, hd2, hbr⟩ := hrel
    have hY := Aside0.mk (blk_below HY.out hbr)
    have hN := Aside0.mk (Kd.N_below HN.out hbr)
    have hb1 := Below.trans hb0 (Below.mono hbr hb0.size)
    have hsr := hbr.size
    obtain ⟨y0, y1⟩ := bx2 hY.out
    by_cases ci : i < l.length
    · obtain ⟨ad, x, rfl, hx, e0, e1⟩ := el85 (Kd.C_below H.out hb1) i ci
      have hxs := supR_iff.1 (show supR x = true from HS.out x (by rw [← hx.out]; exact List.getElem_mem _))
      have hd := Aside0.mk (show l.drop i = x :: l.drop (i + 1) by rw [List.drop_eq_getElem_cons ci, hx.out])
      have hx0 : ¬ x.f0 = 0 := by omega
      go_wp2_with fail
      have hb2 := below_alloc hbr (.cells #[.int .i64 x.f0, .int .i64 x.f1] 85)
      have hY1 := Aside0.mk (blk_al hY.out (.cells #[.int .i64 x.f0, .int .i64 x.f1] 85))
      have hX1 := Aside0.mk (blk_new wr (.cells #[.int .i64 x.f0, .int .i64 x.f1] 85))
      have hN1 := Aside0.mk (Kd.N_alloc hN.out (.cells #[.int .i64 x.f0, .int .i64 x.f1] 85))
      have hz1 : (wr.alloc (.cells #[.int .i64 x.f0, .int .i64 x.f1] 85)).heap.size = wr.heap.size + 1 := alsz
      generalize hW1 : wr.alloc (.cells #[.int .i64 x.f0, .int .i64 x.f1] 85) = W1 at hY1 hX1 hN1 hb2 hz1 ⊢
      clear hW1
      obtain ⟨x2, x3⟩ := bx2 hX1.out
      refine st_ 10 (fun w' => Below W1.heap.size W1 w' ∧ w'.cell? (⟨wr.heap.size, 0, none⟩) = some (.int .i64 x.f0)) [] synth_next.tab5 synth_next.bits5 ⟨below_drew1 bl0, x2⟩ (h := fun HT HW hHeld => ?_)
      repeat (first | refine pn_ HT (h := ?_) | refine tn_ HT HW hHeld (h := ?_) | refine zn_ HT (h := ?_))
      refine dn_ HT (h := ?_)
      clear HT HW hHeld
      have hb3 := below_drew hb2
      have hY3 := Aside0.mk (blk_below hY1.out (below_drew (Below.refl _ W1)))
      have hN3 := Aside0.mk (Kd.N_below hN1.out (below_drew (Below.refl _ W1)))
      rw [Int.tmod_eq_emod_of_nonneg ht]
      have hm0 := Int.emod_nonneg t hx0
      have hm1 := Int.emod_lt_of_pos t (show 0 < x.f0 by omega)
      have hab := Aside0.mk (show (if 0 < ws.getD i 0 ∧ (out = -1 ∨ t - t % x.f0 + x.f0 < due) then nextGo t (l.drop (i + 1)) (i + 1) ws i (t - t % x.f0 + x.f0) else nextGo t (l.drop (i + 1)) (i + 1) ws out due) = r by have := ha.out; rw [hd.out] at this; exact this)
      clear ha
      generalize t % x.f0 = m at hab hm0 hm1 ⊢
      rw [w64 (show (-9223372036854775808 : Int) ≤ t - m by omega) (by omega), w64 (show (-9223372036854775808 : Int) ≤ t - m + x.f0 by omega) (by omega)]
      obtain ⟨d, hdd⟩ : ∃ d, d = t - m + x.f0 := ⟨_, rfl⟩
      rw [← hdd] at hab ⊢
      have hdb : 0 ≤ d ∧ d ≤ 440 := by omega
      clear hdd hm0 hm1 x2 x3
      have hsd : W1.drew.heap.size = W1.heap.size := rfl
      generalize W1.drew = W3 at hb3 hY3 hN3 hsd ⊢
      obtain ⟨bd, q, hbd, hq, q0⟩ := elI (Kd.N_reads' hN3.out).2.2 i (by have := HL.out; omega)
      obtain rfl := hbd
      have hil : i < ws.length := by have := HL.out; omega
      have hqd : ws.getD i 0 = q := by rw [List.getD_eq_getElem?_getD, List.getElem?_eq_getElem hil, Option.getD_some, hq.out]
      rw [hqd] at hab
      obtain ⟨y2, y3⟩ := bx2 hY3.out
      by_cases cq : 0 < q
      · by_cases co : out = -1
        · have hac := Aside0.mk (show nextGo t (l.drop (i + 1)) (i + 1) ws i d = r by rw [← hab.out, if_pos ⟨cq, Or.inl co⟩])
          subst co
          go_wp2
          go_roundg (l.length - i - 1)
          case measure => omega
          case rel => exact ⟨i + 1, i, d, by omega, by go_num, rfl, rfl, hac, by omega, by omega, by omega, by omega, hb3⟩
        · have co1 : (out == -1) = false := by simpa using co
          by_cases cd : d < due
          · have hac := Aside0.mk (show nextGo t (l.drop (i + 1)) (i + 1) ws i d = r by rw [← hab.out, if_pos ⟨cq, Or.inr cd⟩])
            clear co
            go_wp2
            go_roundg (l.length - i - 1)
            case measure => omega
            case rel => exact ⟨i + 1, i, d, by omega, by go_num, rfl, rfl, hac, by omega, by omega, by omega, by omega, hb3⟩
          · have hac := Aside0.mk (show nextGo t (l.drop (i + 1)) (i + 1) ws out due = r by rw [← hab.out, if_neg (fun h => h.2.elim co cd)])
            clear co
            go_wp2
            go_roundg (l.length - i - 1)
            case measure => omega
            case rel => exact ⟨i + 1, out, due, by omega, by go_num, rfl, rfl, hac, by omega, by omega, by omega, by omega, hb3⟩
      · have hac := Aside0.mk (show nextGo t (l.drop (i + 1)) (i + 1) ws out due = r by rw [← hab.out, if_neg (fun h => cq h.1)])
        go_wp2
        go_roundg (l.length - i - 1)
        case measure => omega
        case rel => exact ⟨i + 1, out, due, by omega, by go_num, rfl, rfl, hac, by omega, by omega, by omega, by omega, hb3⟩
    · have : i = l.length := by omega
      subst this
      obtain rfl : out = r := by rw [← ha.out, List.drop_length]; rfl
      clear ha
      by_cases co : out = -1
      · have hv := Aside0.mk (show decW ws out = ws from if_pos co)
        subst co
        go_wp2
        go_ret
        exact ⟨rfl, hY.out, by rw [hv.out]; exact hN.out, hb1, Kept.of_below hbr _⟩
      · have hv := Aside0.mk (show decW ws out = ws.set out.toNat (ws.getD out.toNat 0 - 1) from if_neg co)
        have co1 : (out == -1) = false := by simpa using co
        have co2 : (out != -1) = true := by simpa using co
        obtain ⟨k, hk⟩ : ∃ k : Nat, out = k := ⟨out.toNat, by omega⟩
        subst hk
        clear co co1
        have hkl : k < ws.length := by have := HL.out; omega
        rw [Int.toNat_natCast] at hv
        obtain ⟨g, cap, hg1, hbg, hgg, -⟩ := Kd.N_form hN.out (by omega)
        injection hg1 with hA1 hA2 hA3
        subst hA1 hA3
        clear hA2
        have hgy1 : g ≠ gy := hN.out.1 g rfl
        obtain ⟨bd, q, hbd, hq, q0⟩ := elI (Kd.N_reads' hN.out).2.2 k hkl
        obtain rfl := Option.some.inj hbd
        rw [show (⟨g, 0, none⟩ : Addr).add k = ⟨g, k, none⟩ from by (unfold Addr.add; split <;> simp_all)] at q0
        have hqd : ws.getD k 0 = q := by rw [List.getD_eq_getElem?_getD, List.getElem?_eq_getElem hkl, Option.getD_some, hq.out]
        have hqb := HWB.out q (by rw [← hq.out]; exact List.getElem_mem _)
        go_wp2_with ((with_reducible refine gate_store (t := 3) (p := 59) (v := .tmp 58) rfl ?_); refine stNI (w0 := w00) (i := k) (q := q - 1) hN.out hkl hb1 (h := fun w6 hN6 hb6 hg6 => ?_))
        go_ret
        exact ⟨rfl, blk_grown hY.out hg6 (fun he => hgy1 (Option.some.inj he).symm), by rw [hv.out, hqd]; exact hN6, hb6, Kept.of_grown hg6 (Kept.of_below hbr _) (fun k hk => Or.inl hk)⟩
theorem N_okI {e base : Nat} {w : World} {ok ok' : Nat → Prop} {v : Value} {xs : List Int} (h : Kd.N (Kd.int .i64) e w base ok v xs) (h2 : ∀ k, v.ownBlock = some k → ok' k) : Kd.N (Kd.int .i64) e w base ok' v xs := by
  obtain ⟨h0, rows, hl, hR, hf⟩ := h
  exact ⟨h2, rows, hl, hR, fun j x c hx hc => flatI _ _ _ _ _ (hf j x c hx hc)⟩
theorem N_apart {e base : Nat} {w w1 : World} {ok : Nat → Prop} {v : Value} {xs : List Int} {row : Option Nat} (h : Kd.N (Kd.int .i64) e w base ok v xs) (hg : w.grownBy w1 row) (hne : ∀ k, row = some k → v.ownBlock ≠ some k) : Kd.N (Kd.int .i64) e w1 base ok v xs :=
  N_okI (Kd.N_grown (N_okI h (ok' := fun k => v.ownBlock = some k) (fun k hk => hk)) hg (fun k hk he => hne k he.symm hk)) h.1
def layGo (l : List S85) : Nat → Int → List Int → List Int → Option (List Int)
  | 0, t, ws, out => match begGo t l 0 ws with
    | none => none
    | some _ => some out
  | n + 1, t, ws, out => match begGo t l 0 ws with
    | none => none
    | some ws1 => layGo l n (t + 1) (decW ws1 (nextGo t l 0 ws1 (-1) 0)) (out ++ [nextGo t l 0 ws1 (-1) 0])
theorem layGo_none {l : List S85} {t : Int} {ws out : List Int} (n : Nat) (h : begGo t l 0 ws = none) : layGo l n t ws out = none := by
  cases n <;> (unfold layGo; rw [h])
theorem layGo_some {l : List S85} {t : Int} {ws out ws1 : List Int} (n : Nat) (h : begGo t l 0 ws = some ws1) : layGo l (n + 1) t ws out = layGo l n (t + 1) (decW ws1 (nextGo t l 0 ws1 (-1) 0)) (out ++ [nextGo t l 0 ws1 (-1) 0]) := by
  rw [layGo, h]
theorem layGo_end {l : List S85} {t : Int} {ws out ws1 : List Int} (h : begGo t l 0 ws = some ws1) : layGo l 0 t ws out = some out := by
  rw [layGo, h]
def layI (l : List S85) : List Int × Int := match frG 1 l with
  | none => ([], 5)
  | some fr => match layGo l fr.toNat 0 (List.replicate l.length 0) [] with
    | none => ([], 7)
    | some o => (o, 0)
theorem frG_bd : ∀ (l : List S85) (a fr : Int), 1 ≤ a → a ≤ 240 → (∀ f ∈ l, supR f = true) → frG a l = some fr → 1 ≤ fr ∧ fr ≤ 240
  | [], a, fr, h1, h2, _, h => by obtain rfl := Option.some.inj h; exact ⟨h1, h2⟩
  | f :: r, a, fr, h1, h2, hs, h => by
    unfold frG at h
    split at h
    · cases h
    · have hf := supR_iff.1 (hs f (List.mem_cons_self ..))
      exact frG_bd r _ fr (lcmI_bd h1 (by omega)).1 (by omega) (fun g hg => hs g (List.mem_cons_of_mem _ hg)) h
theorem begGo_bd (t lo : Int) (hlo : lo ≤ 0) : ∀ (l : List S85) (i : Nat) (ws ws' : List Int), (∀ f ∈ l, supR f = true) → (∀ x ∈ ws, lo ≤ x ∧ x ≤ 200) → begGo t l i ws = some ws' → ∀ x ∈ ws', lo ≤ x ∧ x ≤ 200
  | [], _, ws, ws', _, hb, h => by rw [← Option.some.inj h]; exact hb
  | f :: r, i, ws, ws', hs, hb, h => by
    have hf := supR_iff.1 (hs f (List.mem_cons_self ..))
    unfold begGo at h
    split at h
    · split at h
      · cases h
      · refine begGo_bd t lo hlo r _ _ _ (fun g hg => hs g (List.mem_cons_of_mem _ hg)) (fun x hx => ?_) h
        rcases List.mem_or_eq_of_mem_set hx with hx | rfl
        · exact hb x hx
        · omega
    · exact begGo_bd t lo hlo r _ _ _ (fun g hg => hs g (List.mem_cons_of_mem _ hg)) hb h
theorem decW_bd (ws : List Int) (x lo : Int) (hlo : lo ≤ 0) (hb : ∀ x ∈ ws, lo ≤ x ∧ x ≤ 200) : ∀ y ∈ decW ws x, lo - 1 ≤ y ∧ y ≤ 200 := by
  unfold decW
  split
  · exact fun y hy => ⟨by have := (hb y hy).1; omega, (hb y hy).2⟩
  · intro y hy
    rcases List.mem_or_eq_of_mem_set hy with hy | rfl
    · exact ⟨by have := (hb y hy).1; omega, (hb y hy).2⟩
    · by_cases hl : x.toNat < ws.length
      · have := hb (ws.getD x.toNat 0) (by rw [List.getD_eq_getElem?_getD, List.getElem?_eq_getElem hl, Option.getD_some]; exact List.getElem_mem _)
        omega
      · rw [List.getD_eq_getElem?_getD, List.getElem?_eq_none (by omega), Option.getD_none]; omega
theorem decW_len (ws : List Int) (x : Int) : (decW ws x).length = ws.length := by unfold decW; split <;> simp
theorem synth_Lay.calls (A : Option Addr) (c : Nat) (l : List S85) (w : World) (h : Kd.C k85 w A l.length l) (h4 : l.length ≤ 4) (hs : ∀ f ∈ l, supR f = true) :
    Calls Tryz.prog 47 #[.slice A l.length c] w fun e w' => ∃ v, e = .returned (.tuple #[v, .int .i64 (layI l).2]) ∧ Kd.N (Kd.int .i64) 3 w' w.heap.size (fun k => w.heap.size ≤ k) v (layI l).1 ∧ Below w.heap.size w w' := by
  have hu := Tryz.underlying62
  have hu3 := Tryz.underlying169
  have hu4 := Tryz.underlying33
  have H := Aside0.mk h
  have HS := Aside0.mk hs
  clear h hs
  go_enter Tryz.func47, Tryz.ntmps47
  go_wp2_with fail
  refine (synth_Frame.calls A c l w H.out h4 HS.out).mono ?_; rintro _ w2 ⟨rfl, hb2⟩
  have hs2 := hb2.size
  cases hfr : frG 1 l with
  | none =>
    have hv := Aside0.mk (show layI l = ([], 5) by unfold layI; rw [hfr])
    rw [frI_none hfr]
    go_wp2
    go_ret2
    exact ⟨_, by rw [hv.out]; rfl, by rw [hv.out]; exact Kd.N_nil _ _ _ _ _, hb2⟩
  | some fr =>
    rw [frI_some hfr]
    obtain ⟨hf1, hf2⟩ := frG_bd l 1 fr (by omega) (by omega) HS.out hfr
    obtain ⟨n, rfl⟩ : ∃ n : Nat, fr = n := ⟨fr.toNat, by omega⟩
    have hlv := Aside0.mk (show layI l = match layGo l n 0 (List.replicate l.length 0) [] with
      | none => ([], 7)
      | some o => (o, 0) by unfold layI; rw [hfr]; rfl)
    clear hfr
    go_wp2_with ((with_reducible refine gate_ (.makeSlice 33 (.tmp 21) (.tmp 21)) rfl ?_); refine Kd.N_make (Kd.int .i64) (w0 := w2) w2.heap.size 3 rfl rfl 33 (.tmp 21) (.tmp 21) rfl (l.length : Int) rfl rfl Tryz.underlying33 (.int .i64 0) 8 (by kernel_rfl) rfl (by decide) (by decide) (0 : Int) (ok := fun _ => True) (okp := fun _ => False) (fun _ _ => rfl) (fun _ h => h.elim) trivial (by omega) (by omega) (Below.refl _ _) (Nat.le_refl _) (fun v5 w5 hN5 hb5 hg5 hat5 => ?_); (obtain ⟨ws0, hws0⟩ : ∃ ws0, ws0 = List.replicate (l.length : Int).toNat (0 : Int) := ⟨_, rfl⟩); rw [← hws0] at hN5; (replace hws0 := Aside0.mk hws0); clear hat5; (obtain ⟨A5, c5, rfl⟩ := Kd.N_slice hN5); (have HN5 := Aside0.mk hN5); clear hN5)
    have hwl := Aside0.mk (show ws0.length = l.length by rw [hws0.out, List.length_replicate, Int.toNat_natCast])
    have hwz := Aside0.mk (show ∀ x ∈ ws0, -(0 : Int) ≤ x ∧ x ≤ 200 from fun x hx => by rw [hws0.out] at hx; have := (List.mem_replicate.1 hx).2; omega)
    replace hlv := Aside0.mk (show layI l = match layGo l n 0 ws0 [] with
      | none => ([], 7)
      | some o => (o, 0) by rw [hlv.out, hws0.out, Int.toNat_natCast])
    have hY0 := Aside0.mk (blk_new w5 (.cells #[.slice A l.length c, .slice A5 ws0.length c5] 169))
    have hNw := Aside0.mk (N_okI (ok' := fun k => k ≠ w5.heap.size) (Kd.N_alloc HN5.out (.cells #[.slice A l.length c, .slice A5 ws0.length c5] 169)) (fun k hk => by have := Kd.N_lt HN5.out k hk; omega))
    have hb6 := Aside0.mk (below_alloc hb5 (.cells #[.slice A l.length c, .slice A5 ws0.length c5] 169))
    have hy0 : w2.heap.size ≤ w5.heap.size := hb5.size
    have hyl : (w5.alloc (.cells #[.slice A l.length c, .slice A5 ws0.length c5] 169)).heap.size = w5.heap.size + 1 := alsz
    have hH2 := Aside0.mk (Kd.C_below H.out hb2)
    clear hws0 HN5 hg5 hb5
    generalize hW : w5.alloc (.cells #[.slice A l.length c, .slice A5 ws0.length c5] 169) = W6 at hY0 hNw hb6 hyl ⊢
    generalize hgy : w5.heap.size = gy at hY0 hNw hy0 hyl ⊢
    clear hW hgy
    go_loopg [9, 30] n (fun k v9 v30 wr => ∃ (i : Nat) (ws out : List Int), i + k = n ∧ v30 = .int .i64 i ∧ Aside0 (layGo l (n - i) i ws out = layGo l n 0 ws0 []) ∧ Aside0 (ws.length = ws0.length) ∧ Aside0 (out.length = i) ∧ Aside0 (∀ x ∈ ws, -(i : Int) ≤ x ∧ x ≤ 200) ∧ Aside0 (wr.heap[gy]? = some (.cells #[.slice A l.length c, .slice A5 ws0.length c5] 169 (0, 0))) ∧ Aside0 (Kd.N (Kd.int .i64) 3 wr w2.heap.size (fun k => k ≠ gy) (.slice A5 ws0.length c5) ws) ∧ Aside0 (Kd.N (Kd.int .i64) 3 wr w2.heap.size (fun k => w2.heap.size ≤ k ∧ k ≠ gy ∧ (Value.slice A5 ws0.length c5).ownBlock ≠ some k) v9 out) ∧ Aside0 (Below w2.heap.size w2 wr))
    case atStart => exact ⟨0, ws0, [], by omega, rfl, ⟨rfl⟩, ⟨rfl⟩, ⟨rfl⟩, hwz, hY0, hNw, ⟨Kd.N_nil _ _ _ _ _⟩, hb6⟩
    case round =>
      clear hY0 hNw hb6 hwz hyl
      obtain ⟨i, ws, out, hi, rfl, ha, hl1, hlo, hwb, hY, hN, hO, hbr⟩ := hrel
      have hsr := hbr.out.size
      have hbw := Below.trans hb2 (Below.mono hbr.out hs2)
      by_cases ci : i < n
      · obtain ⟨m, hm⟩ : ∃ m, n - i = m + 1 := ⟨n - i - 1, by omega⟩
        have hil : (i : Int) ≤ 240 := by omega
        go_wp2_with fail
        cases hr : begGo i l 0 ws with
        | none =>
          have hv := Aside0.mk (show layI l = ([], 7) by rw [hlv.out, ← ha.out, layGo_none _ hr])
          refine (synth_begin.calls none w2 gy A c l (.slice A5 ws0.length c5) ws i wr hH2.out HS.out hbr.out hY.out hy0 hN.out (by rw [hl1.out, hwl.out]) h4 (by omega) hil hr).mono ?_; rintro _ w6 ⟨rfl, hY6, -, hb6, hk6⟩
          rw [show (none : Option (List Int)).isSome = false from rfl]
          have hb7 := Below.trans hb2 (Below.mono hb6 hs2)
          go_wp2
          go_ret2
          exact ⟨_, by rw [hv.out]; rfl, by rw [hv.out]; exact Kd.N_nil _ _ _ _ _, hb7⟩
        | some ws1 =>
          refine (synth_begin.calls (some ws1) w2 gy A c l (.slice A5 ws0.length c5) ws i wr hH2.out HS.out hbr.out hY.out hy0 hN.out (by rw [hl1.out, hwl.out]) h4 (by omega) hil hr).mono ?_; rintro _ w6 ⟨rfl, hY6, hN6, hb6, hk6⟩
          rw [show (some ws1).isSome = true from rfl]
          have hN6 := Aside0.mk (hN6 ws1 rfl)
          have hO6 := Aside0.mk (Kd.N_kept hO.out hk6 (fun k hk he => hk.2.2 he))
          have hl6 := Aside0.mk (show ws1.length = l.length by rw [begGo_len _ _ _ _ _ hr, hl1.out, hwl.out])
          have hwb6 := Aside0.mk (begGo_bd i (-(i : Int)) (by omega) l 0 ws ws1 HS.out hwb.out hr)
          have hY6 := Aside0.mk hY6
          have hs6 := hb6.size
          have hk6s := hk6.1
          clear hk6
          go_wp2_with fail
          refine (synth_next.calls (nextGo i l 0 ws1 (-1) 0) w2 gy A c l (.slice A5 ws0.length c5) ws1 i w6 hH2.out HS.out hb6 hY6.out hy0 hN6.out hl6.out h4 (by omega) hil (fun x hx => by have := hwb6.out x hx; omega) rfl).mono ?_; rintro _ w7 ⟨rfl, hY7, hN7, hb7, hk7⟩
          have hab := Aside0.mk (show layGo l (n - (i + 1)) (i + 1 : Nat) (decW ws1 (nextGo i l 0 ws1 (-1) 0)) (out ++ [nextGo i l 0 ws1 (-1) 0]) = layGo l n 0 ws0 [] by
            rw [← ha.out, hm, layGo_some _ hr, show n - (i + 1) = m by omega, Int.natCast_add]; rfl)
          have hl7 := Aside0.mk (show (decW ws1 (nextGo i l 0 ws1 (-1) 0)).length = ws0.length by rw [decW_len, hl6.out, hwl.out])
          have hwb7 := Aside0.mk (decW_bd ws1 (nextGo i l 0 ws1 (-1) 0) (-(i : Int)) (by omega) hwb6.out)
          have hO7 := Aside0.mk (Kd.N_kept hO6.out hk7 (fun k hk he => hk.2.2 he))
          have hY7 := Aside0.mk hY7
          have hN7 := Aside0.mk hN7
          have hlt7 := blk_lt hY7.out
          have hs7 := hb7.size
          clear hk7 ha hr hlv hN6 hO6 hY6 hN hO hY hb6
          generalize nextGo i l 0 ws1 (-1) 0 = x at hab hl7 hwb7 hN7 ⊢
          go_wp2_with ((with_reducible refine gate_builtin (b := .append) (xs := #[.tmp 37, .tmp 41]) rfl ?_); at_builtin; refine apN row3 (w0 := w2) (cs := [.int .i64 x]) (p := x) (okp := fun _ => False) hO7.out (by intro W' _; rfl) (fun k hk => hk.elim) (fun k hk => ⟨by omega, by omega, fun he => by have := Kd.N_lt hN7.out k he; omega⟩) hb7 hs7 (by have := hlo.out; omega) (h := fun v8 w8 hO8 hb8 hg8 hat8 => ?_))
          have hY8 := Aside0.mk (blk_grown hY7.out hg8 (fun he => (hO7.out.1 gy he.symm).2.1 rfl))
          have hN8 := Aside0.mk (N_apart hN7.out hg8 (fun k hk he => (hO7.out.1 k hk).2.2 he))
          go_roundg (n - i - 1)
          case measure => omega
          case rel => exact ⟨i + 1, decW ws1 x, out ++ [x], by omega, by go_num, hab, hl7, ⟨by rw [List.length_append, hlo.out]; rfl⟩, ⟨fun y hy => by have := hwb7.out y hy; omega⟩, hY8, hN8, ⟨hO8⟩, ⟨hb8⟩⟩
      · have : i = n := by omega
        subst this
        rw [Nat.sub_self] at ha
        go_wp2_with fail
        cases hr : begGo i l 0 ws with
        | none =>
          have hv := Aside0.mk (show layI l = ([], 7) by rw [hlv.out, ← ha.out, layGo_none _ hr])
          refine (synth_begin.calls none w2 gy A c l (.slice A5 ws0.length c5) ws i wr hH2.out HS.out hbr.out hY.out hy0 hN.out (by rw [hl1.out, hwl.out]) h4 (by omega) (by omega) hr).mono ?_; rintro _ w6 ⟨rfl, hY6, -, hb6, hk6⟩
          rw [show (none : Option (List Int)).isSome = false from rfl]
          have hb7 := Below.trans hb2 (Below.mono hb6 hs2)
          go_wp2
          go_ret2
          exact ⟨_, by rw [hv.out]; rfl, by rw [hv.out]; exact Kd.N_nil _ _ _ _ _, hb7⟩
        | some ws1 =>
          have hv := Aside0.mk (show layI l = (out, 0) by rw [hlv.out, ← ha.out, layGo_end hr])
          refine (synth_begin.calls (some ws1) w2 gy A c l (.slice A5 ws0.length c5) ws i wr hH2.out HS.out hbr.out hY.out hy0 hN.out (by rw [hl1.out, hwl.out]) h4 (by omega) (by omega) hr).mono ?_; rintro _ w6 ⟨rfl, hY6, -, hb6, hk6⟩
          rw [show (some ws1).isSome = true from rfl]
          have hO6 := Aside0.mk (Kd.N_kept hO.out hk6 (fun k hk he => hk.2.2 he))
          have hb7 := Below.trans hb2 (Below.mono hb6 hs2)
          go_wp2
          go_ret2
          exact ⟨_, by rw [hv.out]; rfl, by rw [hv.out]; exact Kd.N_mono (N_rebase hO6.out hs2) (fun k hk => Nat.le_trans hs2 hk.1), hb7⟩
end Go.Proofs.YtmngaagojkihbaaGreat.FTop
