/- Contracts of functions that the statement TopAlone reaches, and plain lemmas. No condition. -/
import Derived.Test.YtmngaagojkihbaaGreatZ10
import Derived.RangeFuncFrom
import Derived.RangeFuncBound
import Derived.RangeFuncCalls
import Derived.RangeFuncLeaves
import Derived.Shelf.Abstract
import Derived.OwnWalkIn
import Derived.TacticsInMore
import Derived.LoopNIn
import Derived.LoopIn
import Derived.Sort.LoopGhostIn
namespace Go.Proofs.YtmngaagojkihbaaGreat.FTop
open Go.RowKit Go.Proofs.YtmngaagojkihbaaGreatW.PrintWords Go.Proofs.YtmngaagojkihbaaGreatW.PrintLast Go.Proofs.YtmngaagojkihbaaGreatW.PrintMore
attribute [local go_sem] max2_int min2_int max_two min_two
set_option linter.unusedVariables false
set_option linter.unusedSimpArgs false
set_option maxHeartbeats 8000000
set_option maxRecDepth 100000
def demand_Bound.T8 : Bool × List (List Nat × List Nat) := (true, [([], []), ([], []), ([1], [1]), ([], []), ([], []), ([3, 4], [3, 4]), ([0, 2, 5, 5], [0, 2, 5])])
def demand_Bound.B8 : List Nat := [0, 0, 2, 0, 0, 24, 63]
theorem demand_Bound.tab8 : rtab .any (opsOf Tryz.f134 8) = demand_Bound.T8 := by kernel_rfl
theorem demand_Bound.bits8 : waitsOk demand_Bound.T8.2 demand_Bound.B8 = true := by kernel_rfl
def jobsN (x : S44) (t : Int) : Int := if t < x.f1 then 0 else (t - x.f1) / x.f2 + 1
def demI (l : List S44) (t : Int) : Int := l.foldl (fun s x => s + x.f0 * jobsN x t) 0
theorem jobsN_bd {x : S44} {t : Int} (hx : taskR x = true) (h0 : 0 ≤ t) (h1 : t ≤ 3000) : 0 ≤ jobsN x t ∧ jobsN x t ≤ 3001 := by
  have h2 := taskR_own hx
  unfold jobsN
  split
  · omega
  · have h3 := Int.ediv_nonneg (show 0 ≤ t - x.f1 by omega) (show 0 ≤ x.f2 by omega)
    have h4 := Int.ediv_le_self x.f2 (show 0 ≤ t - x.f1 by omega)
    omega
theorem demI_snoc (l : List S44) (t : Int) (i : Nat) (hi : i < l.length) : demI (l.take (i + 1)) t = demI (l.take i) t + l[i].f0 * jobsN l[i] t := by
  unfold demI; rw [List.take_succ_eq_append_getElem hi, List.foldl_append]; rfl
theorem demI_bd {l : List S44} (t : Int) (hl : taskA l = true) (h0 : 0 ≤ t) (h1 : t ≤ 3000) : ∀ i, i ≤ l.length → 0 ≤ demI (l.take i) t ∧ demI (l.take i) t ≤ (i : Int) * 600200 := by
  intro i
  induction i with
  | zero => intro _; simp [demI]
  | succ i ih =>
    intro hi
    have h2 := ih (by omega)
    have h3 := taskA_task hl (show i < l.length by omega)
    have h4 := taskR_own h3
    have h5 := jobsN_bd h3 h0 h1
    rw [demI_snoc l t i (by omega)]
    have h6 := Int.mul_le_mul (show l[i].f0 ≤ 200 by omega) h5.2 h5.1 (by omega)
    have h7 := Int.mul_nonneg (show 0 ≤ l[i].f0 by omega) h5.1
    generalize l[i].f0 * jobsN l[i] t = q at h6 h7 ⊢
    omega
theorem demand_jobs.calls (x : S44) (A : Option Addr) (c : Nat) (t : Int) (w : World) (hx : taskR x = true) (h0 : 0 ≤ t) (h1 : t ≤ 3000) : Ret 142 #[vT x A c, .int .i64 t] w (.int .i64 (jobsN x t)) := by
  have hu := Tryz.underlying44
  have h2 := taskR_own hx
  have h9 := jobsN_bd hx h0 h1
  clear hx
  go_enter Tryz.func142, Tryz.ntmps142
  by_cases cd : t < x.f1
  · have hv := Aside0.mk (show jobsN x t = 0 from if_pos cd)
    go_wp2
    go_ret
    exact ⟨by rw [hv.out]; rfl, bl1⟩
  · have hv : jobsN x t = (t - x.f1) / x.f2 + 1 := if_neg cd
    have hd := hv ▸ h9
    have HV := Aside0.mk hv
    clear h9 hv
    go_wp2_with fail
    refine (arith_Floor.calls (t - x.f1) x.f2 _ (by omega) (by omega) (by omega) (by omega)).mono ?_; rintro e w2 ⟨rfl, hb⟩
    generalize (t - x.f1) / x.f2 = q at hd HV ⊢
    go_wp2
    go_ret
    exact ⟨by rw [HV.out]; go_num, below_step bl1 hb⟩
theorem dem1.calls (base : Nat) (c n s : Int) (gs gb : Nat) (w : World) (hbs : base ≤ w.heap.size) (hgs : base ≤ gs) (hc : 0 ≤ c) (hc2 : c ≤ 200) (hn : 0 ≤ n) (hn2 : n ≤ 3001) (h0 : 0 ≤ s) (h1 : s ≤ 10000000) (hs : w.heap[gs]? = some (.cells #[.int .i64 s] 3 (0, 0))) :
    Calls Tryz.prog 141 #[.int .i64 c, .int .i64 n, .pointer (some ⟨gs, 0, none⟩), .pointer (some ⟨gb, 0, none⟩)] w fun e w' => e = .returned (.tuple #[]) ∧ w'.heap[gs]? = some (.cells #[.int .i64 (s + c * n)] 3 (0, 0)) ∧ Kept w w' (fun k => k = gs) ∧ Below base w w' := by
  have h6 := Int.mul_le_mul hc2 hn2 hn (by omega)
  have h7 := Int.mul_nonneg hc hn
  have hsl := blk_lt hs
  go_enter Tryz.func141, Tryz.ntmps141
  go_wp2_with fail
  refine (arith_Mul.calls c n _ hc (by omega) hn (by omega)).mono ?_; rintro e w2 ⟨rfl, hb⟩
  have hs2 := blk_below hs hb
  have x0 := bx1 hs2
  generalize hq : c * n = q at h6 h7 ⊢
  have HQ := Aside0.mk hq
  clear hq
  go_wp2_with fail
  refine (arith_Add.calls s q _ h0 (by omega) h7 (by omega)).mono ?_; rintro e w3 ⟨rfl, hb3⟩
  have hs3 := blk_below hs2 hb3
  have hb4 := below_step hb hb3
  go_wp2_with ((with_reducible refine gate_store (t := 3) (p := 2) (v := .tmp 28) rfl ?_); refine stB (w0 := w) (base := base) (seg := [.int .i64 (s + q)]) (cs' := [.int .i64 (s + q)]) hs3 (Below.mono hb4 hbs) hgs (h := fun w4 hs4 hbb4 hg4 => ?_))
  go_end0
  exact ⟨rfl, by rw [HQ.out]; exact hs4, ⟨Nat.le_trans hb4.size hg4.size, fun k hk hS => (hg4.block k (Nat.lt_of_lt_of_le hk hb4.size) (fun he => hS (Option.some.inj he))).trans (hb4.block k hk)⟩, hbb4⟩
theorem demand_Bound.calls (A : Option Addr) (c : Nat) (l : List S44) (t : Int) (w : World) (h : Kd.C k44 w A l.length l) (hT : taskA l = true) (h0 : 0 ≤ t) (h1 : t ≤ 3000) : Ret 134 #[.slice A l.length c, .int .i64 t] w (.tuple #[.int .i64 (demI l t), .int .i64 0]) := by
  have hu := Tryz.underlying44
  have H := Aside0.mk h
  have HT1 := Aside0.mk hT
  have hl8 : l.length ≤ 8 := by have := hT; unfold taskA at this; rw [Bool.and_eq_true] at this; exact of_decide_eq_true this.2
  clear h hT
  go_enter Tryz.func134, Tryz.ntmps134
  go_wp2_with fail
  refine (task_All.calls A c l _ H.out).mono ?_; rintro e w2 ⟨rfl, hb⟩
  rw [HT1.out]
  have hw2 := hb.size
  have hA1 : (w2.alloc (.cells #[.int .i64 0] 3)).heap.size = w2.heap.size + 1 := alsz
  have hs0 := blk_al (blk_new w2 (.cells #[.int .i64 0] 3)) (.cells #[.int .i64 0] 27)
  have hg0 := blk_new (w2.alloc (.cells #[.int .i64 0] 3)) (.cells #[.int .i64 0] 27)
  rw [hA1] at hg0
  have hb' := below_alloc (below_alloc hb (.cells #[.int .i64 0] 3)) (.cells #[.int .i64 0] 27)
  go_wp2
  go_loopg [25] l.length (fun k v25 wr => ∃ i : Nat, i + k = l.length ∧ v25 = .int .i64 i ∧ wr.heap[w2.heap.size]? = some (.cells #[.int .i64 (demI (l.take i) t)] 3 (0, 0)) ∧ wr.heap[w2.heap.size + 1]? = some (.cells #[.int .i64 0] 27 (0, 0)) ∧ Below w.heap.size w wr)
  case atStart => exact ⟨0, by omega, by go_num, hs0, hg0, hb'⟩
  case round =>
    obtain ⟨i, hi, rfl, hs, hg, hbr⟩ := hrel
    by_cases ci : i < l.length
    · have hCr := Aside0.mk (Kd.C_below H.out hbr)
      obtain ⟨ad, A3, c3, x, rfl, hx, e0, e1, e2, e3, hlc, hC⟩ := el44 hCr.out i ci
      have hxr : taskR x = true := by rw [← hx.out]; exact taskA_task HT1.out ci
      have hxo := taskR_own hxr
      have hjb := jobsN_bd hxr h0 h1
      have hdb := demI_bd t HT1.out h0 h1 i (by omega)
      have hsn := Aside0.mk (demI_snoc l t i ci)
      rw [hx.out] at hsn
      have hgx := blk_new wr (.cells #[.int .i64 x.f0, .int .i64 x.f1, .int .i64 x.f2, .slice A3 x.f3.length c3] 44)
      obtain ⟨z0, z1, z2, z3⟩ := bx4 hgx
      have hb1 := @bl1 wr (.cells #[.int .i64 x.f0, .int .i64 x.f1, .int .i64 x.f2, .slice A3 x.f3.length c3] 44)
      go_wp2
      refine st_ 7 (fun w' => Below wr.heap.size wr w' ∧ w'.cell? (⟨wr.heap.size, 0, none⟩) = some (.int .i64 x.f0) ∧ w'.cell? (⟨wr.heap.size, 1, none⟩) = some (.int .i64 x.f1) ∧ w'.cell? (⟨wr.heap.size, 2, none⟩) = some (.int .i64 x.f2) ∧ w'.cell? (⟨wr.heap.size, 3, none⟩) = some (.slice A3 x.f3.length c3)) [6] demand_Bound.tab8 demand_Bound.bits8 ⟨below_drew1 hb1, z0, z1, z2, z3⟩ (h := fun HT HW hHeld => ?_)
      repeat (first | refine pn_ HT (h := ?_) | refine tn_ HT HW hHeld (h := ?_) | refine zn_ HT (h := ?_))
      refine oc_ HT (demand_jobs.calls x A3 c3 t _ hxr h0 h1) (hS := fun w3 hb3 => ⟨below_step (hHeld.1) hb3, be_cell hb3 (hHeld.2.1), be_cell hb3 (hHeld.2.2.1), be_cell hb3 (hHeld.2.2.2.1), be_cell hb3 (hHeld.2.2.2.2)⟩) (h := fun w3 hb3 hHeld => ?_)
      repeat (first | refine pn_ HT (h := ?_) | refine tn_ HT HW hHeld (h := ?_) | refine zn_ HT (h := ?_))
      have hb5 : Below wr.heap.size wr w3 := (hHeld.1)
      have hs5 := blk_below hs hb5
      have hg5 := blk_below hg hb5
      refine ln_ HT (h := fun K hK => ?_)
      refine cn_ ((dem1.calls w.heap.size x.f0 (jobsN x t) (demI (l.take i) t) w2.heap.size (w2.heap.size + 1) w3 (Nat.le_trans hbr.size hb5.size) hw2 (by omega) (by omega) hjb.1 hjb.2 hdb.1 (by omega) hs5).mono (fun e w' h => ⟨_, h.1, h.2⟩)) (R := fun _ w' => w'.heap[w2.heap.size]? = some (.cells #[.int .i64 (demI (l.take i) t + x.f0 * jobsN x t)] 3 (0, 0)) ∧ Kept w3 w' (fun k => k = w2.heap.size) ∧ Below w.heap.size w3 w') (h := fun v6 w6 hv6 => ?_)
      obtain ⟨hs6, hk6, hb6⟩ := hv6
      refine hK.out _ _ ?_
      refine dn_ HT (h := ?_)
      go_wp2
      go_roundg (l.length - i - 1)
      case measure => omega
      case rel =>
        refine ⟨i + 1, by omega, by go_num, by rw [hsn.out]; exact hs6, (hk6.2 _ (blk_lt hg5) (by omega)).trans hg5, Below.trans hbr (Below.trans (Below.mono hb5 hbr.size) hb6)⟩
    · have : i = l.length := by omega
      subst this
      rw [List.take_length] at *
      obtain x0 := bx1 hs
      obtain x1 := bx1 hg
      go_wp2
      go_ret2
      exact ⟨rfl, hbr⟩
def shB (l : List S44) (t r : Int) : Bool := l.any (fun x => decide (x.f1 ≤ t) && usesT x r)
def lookI (l : List S44) (t : Int) (m : Int) (s : S89) : Int := if decide (m < s.f2) && shB l t s.f0 then s.f2 else m
def blk1 (l : List S44) (t : Int) (m : Int) (x : S44) : Int := if x.f1 ≤ t then m else x.f3.foldl (lookI l t) m
def blkI (l : List S44) (t : Int) : Int := l.foldl (blk1 l t) 0
theorem fold_bd {α : Type} {f : Int → α → Int} {P : α → Prop} (hf : ∀ m x, P x → 0 ≤ m → m ≤ 200 → 0 ≤ f m x ∧ f m x ≤ 200) : ∀ (xs : List α) (m : Int), (∀ x ∈ xs, P x) → 0 ≤ m → m ≤ 200 → 0 ≤ xs.foldl f m ∧ xs.foldl f m ≤ 200 := by
  intro xs
  induction xs with
  | nil => intro m _ h1 h2; exact ⟨h1, h2⟩
  | cons x xs ih =>
    intro m hP h1 h2
    have h3 := hf m x (hP x (List.mem_cons_self ..)) h1 h2
    exact ih _ (fun y hy => hP y (List.mem_cons_of_mem _ hy)) h3.1 h3.2
theorem taskR_sec2 {x : S44} (h : taskR x = true) (s : S89) (hs : s ∈ x.f3) : 0 ≤ s.f2 ∧ s.f2 ≤ 200 := by
  obtain ⟨i, hi, rfl⟩ := List.getElem_of_mem hs
  have h1 := taskR_own h
  have h2 := h
  unfold taskR at h2
  rw [Bool.and_eq_true] at h2
  have h3 := (secsR_iff _ _).1 h2.2 i hi
  have h4 := (secOk_iff hi).1 h3
  have h5 := (mayT_iff _ _).1 h4.1
  omega
theorem blk1_bd {l : List S44} {t m : Int} {x : S44} (hx : taskR x = true) (h0 : 0 ≤ m) (h1 : m ≤ 200) : 0 ≤ blk1 l t m x ∧ blk1 l t m x ≤ 200 := by
  unfold blk1
  split
  · exact ⟨h0, h1⟩
  · refine fold_bd (P := fun s => 0 ≤ s.f2 ∧ s.f2 ≤ 200) (fun m s hs h1 h2 => ?_) x.f3 m (taskR_sec2 hx) h0 h1
    unfold lookI
    split <;> omega
theorem blkI_bd {l : List S44} (t : Int) (h : taskA l = true) : 0 ≤ blkI l t ∧ blkI l t ≤ 200 := by
  refine fold_bd (P := fun x => taskR x = true) (fun m x hx h1 h2 => blk1_bd hx h1 h2) l 0 (fun x hx => ?_) (by omega) (by omega)
  obtain ⟨i, hi, rfl⟩ := List.getElem_of_mem hx
  exact taskA_task h hi
theorem block_shared.calls (A : Option Addr) (c : Nat) (l : List S44) (t r : Int) (w : World) (h : Kd.C k44 w A l.length l) : Ret 144 #[.slice A l.length c, .int .i64 t, .int .i64 r] w (.bool (shB l t r)) := by
  have hu := Tryz.underlying44
  have H := Aside0.mk h
  have hl := h.2.1
  clear h
  go_enter Tryz.func144, Tryz.ntmps144
  go_wp2
  go_loopg [11] l.length (fun k v11 wr => ∃ i : Nat, i + k = l.length ∧ v11 = .int .i64 i ∧ Aside0 ((l.take i).any (fun x => decide (x.f1 ≤ t) && usesT x r) = false) ∧ Below w.heap.size w wr)
  case atStart => exact ⟨0, by omega, rfl, ⟨rfl⟩, bl0⟩
  case round =>
    obtain ⟨i, hi, rfl, ha, hb⟩ := hrel
    by_cases ci : i < l.length
    · obtain ⟨ad, A3, c3, x, rfl, hx, e0, e1, e2, e3, hlc, hC⟩ := el44 (Kd.C_below H.out hb) i ci
      have HC := Aside0.mk hC
      have hs := Aside0.mk (show (l.take (i + 1)).any (fun x => decide (x.f1 ≤ t) && usesT x r) = (decide (x.f1 ≤ t) && usesT x r) by rw [List.take_succ_eq_append_getElem ci, List.any_append, ha.out, hx.out]; simp)
      have hv := fun (hq : (decide (x.f1 ≤ t) && usesT x r) = true) => Aside0.mk (show shB l t r = true from List.any_eq_true.2 ⟨_, List.getElem_mem ci, by rw [hx.out]; exact hq⟩)
      clear hC
      obtain ⟨z0, z1, z2, z3⟩ := bx4 (blk_new wr (.cells #[.int .i64 x.f0, .int .i64 x.f1, .int .i64 x.f2, .slice A3 x.f3.length c3] 44))
      by_cases cd : x.f1 ≤ t
      · go_wp2_with fail
        refine (task_Uses.calls x A3 c3 r _ (C_alloc HC.out _) hlc).mono ?_; rintro e w2 ⟨rfl, hb2⟩
        have hb' := below_step (below_alloc hb _) hb2
        cases hq : usesT x r with
        | true =>
          have hv2 := hv (by rw [hq, decide_eq_true cd]; rfl)
          clear hq hv
          go_wp2
          go_ret
          exact ⟨by rw [hv2.out]; rfl, hb'⟩
        | false =>
          have hs2 := Aside0.mk (hs.out.trans (by rw [hq, Bool.and_false]))
          clear hq hv
          go_wp2
          go_roundg (l.length - i - 1)
          case measure => omega
          case rel => exact ⟨i + 1, by omega, by go_num, hs2, hb'⟩
      · have hs2 := Aside0.mk (hs.out.trans (by rw [decide_eq_false cd, Bool.false_and]))
        clear hv
        go_wp2
        go_roundg (l.length - i - 1)
        case measure => omega
        case rel => exact ⟨i + 1, by omega, by go_num, hs2, below_alloc hb _⟩
    · have : i = l.length := by omega
      subst this
      have hv := Aside0.mk (show shB l t r = false by have := ha.out; rw [List.take_length] at this; exact this)
      go_wp2
      go_ret
      exact ⟨by rw [hv.out]; rfl, hb⟩
theorem blo1.calls (base : Nat) (A : Option Addr) (c : Nat) (l : List S44) (t m : Int) (s : S89) (gm gl gt : Nat) (w : World) (hbs : base ≤ w.heap.size) (hgm : base ≤ gm) (h : Kd.C k44 w A l.length l) (hm : w.heap[gm]? = some (.cells #[.int .i64 m] 3 (0, 0))) (hl : w.heap[gl]? = some (.cells #[.slice A l.length c] 76 (0, 0))) (ht : w.heap[gt]? = some (.cells #[.int .i64 t] 3 (0, 0))) :
    Calls Tryz.prog 143 #[vS s, .pointer (some ⟨gm, 0, none⟩), .pointer (some ⟨gl, 0, none⟩), .pointer (some ⟨gt, 0, none⟩)] w fun e w' => e = .returned (.tuple #[]) ∧ w'.heap[gm]? = some (.cells #[.int .i64 (lookI l t m s)] 3 (0, 0)) ∧ Kept w w' (fun k => k = gm) ∧ Below base w w' := by
  have hu := Tryz.underlying89
  have H := Aside0.mk h
  have hm1 := blk_al hm (.cells #[.int .i64 s.f0, .int .i64 s.f1, .int .i64 s.f2] 89)
  have x0 := bx1 hm1
  have x1 := bx1 (blk_al hl (.cells #[.int .i64 s.f0, .int .i64 s.f1, .int .i64 s.f2] 89))
  have x2 := bx1 (blk_al ht (.cells #[.int .i64 s.f0, .int .i64 s.f1, .int .i64 s.f2] 89))
  have hgl := blk_lt hm
  clear h
  go_enter Tryz.func143, Tryz.ntmps143
  by_cases cm : m < s.f2
  · go_wp2_with fail
    refine (block_shared.calls A c l t s.f0 _ (C_alloc H.out _)).mono ?_; rintro e w2 ⟨rfl, hb⟩
    have hm2 := blk_below hm1 hb
    have hbA := below_step bl1 hb
    obtain ⟨z0, z1, z2⟩ := bx3 (blk_below (blk_new w (.cells #[.int .i64 s.f0, .int .i64 s.f1, .int .i64 s.f2] 89)) hb)
    cases hq : shB l t s.f0 with
    | true =>
      have hv := Aside0.mk (show lookI l t m s = s.f2 by unfold lookI; rw [hq, decide_eq_true cm]; rfl)
      clear hq
      go_wp2_with ((with_reducible refine gate_store (t := 3) (p := 1) (v := .tmp 17) rfl ?_); refine stB (w0 := w) (base := base) (seg := [.int .i64 s.f2]) (cs' := [.int .i64 s.f2]) hm2 (Below.mono hbA hbs) hgm (h := fun w4 hs4 hb4 hg4 => ?_))
      go_end0
      exact ⟨rfl, by rw [hv.out]; exact hs4, ⟨Nat.le_trans hbA.size hg4.size, fun k hk hS => (hg4.block k (Nat.lt_of_lt_of_le hk hbA.size) (fun he => hS (Option.some.inj he))).trans (hbA.block k hk)⟩, hb4⟩
    | false =>
      have hv := Aside0.mk (show lookI l t m s = m by unfold lookI; rw [hq, Bool.and_false]; rfl)
      clear hq
      go_wp2
      go_end0
      exact ⟨rfl, by rw [hv.out]; exact hm2, ⟨hbA.size, fun k hk hS => hbA.block k hk⟩, Below.mono hbA hbs⟩
  · have hv := Aside0.mk (show lookI l t m s = m by unfold lookI; rw [decide_eq_false cm, Bool.false_and]; rfl)
    go_wp2
    go_end0
    exact ⟨rfl, by rw [hv.out]; exact hm1, ⟨(bl1 (w := w) (o := .cells #[.int .i64 s.f0, .int .i64 s.f1, .int .i64 s.f2] 89)).size, fun k hk hS => bl1.block k hk⟩, Below.mono bl1 hbs⟩
theorem foldl_snoc {α β : Type} (f : β → α → β) (z : β) (l : List α) (i : Nat) (hi : i < l.length) : (l.take (i + 1)).foldl f z = f ((l.take i).foldl f z) l[i] := by
  rw [List.take_succ_eq_append_getElem hi, List.foldl_append]; rfl
theorem block_Of.calls (A : Option Addr) (c : Nat) (l : List S44) (t : Int) (w : World) (h : Kd.C k44 w A l.length l) (hT : taskA l = true) : Ret 135 #[.slice A l.length c, .int .i64 t] w (.tuple #[.int .i64 (blkI l t), .int .i64 0]) := by
  have hu := Tryz.underlying44
  have hu2 := Tryz.underlying89
  have H := Aside0.mk h
  have HT1 := Aside0.mk hT
  have hl9 := h.2.1
  clear h hT
  go_enter Tryz.func135, Tryz.ntmps135
  have hz1 : (w.alloc (.cells #[.slice A l.length c] 76)).heap.size = w.heap.size + 1 := alsz
  go_wp2_with fail
  refine (task_All.calls A c l _ (C_alloc (C_alloc H.out _) _)).mono ?_; rintro e w2 ⟨rfl, hb⟩
  rw [HT1.out]
  have hgl := blk_below (blk_al (blk_new w (.cells #[.slice A l.length c] 76)) (.cells #[.int .i64 t] 3)) hb
  have hgt := blk_below (blk_new (w.alloc (.cells #[.slice A l.length c] 76)) (.cells #[.int .i64 t] 3)) hb
  rw [hz1] at hgt
  have hbA := below_step bl2 hb
  clear hb
  have hw2 := hbA.size
  have hlt2 := blk_lt hgt
  have hgm := blk_new w2 (.cells #[.int .i64 0] 3)
  have hgl := blk_al hgl (.cells #[.int .i64 0] 3)
  have hgt := blk_al hgt (.cells #[.int .i64 0] 3)
  have hb' := below_alloc hbA (.cells #[.int .i64 0] 3)
  have x0 := bx1 hgl
  clear hbA
  go_wp2
  clear x0
  go_loopg [18] l.length (fun k v18 wr => ∃ i : Nat, i + k = l.length ∧ v18 = .int .i64 i ∧ wr.heap[w2.heap.size]? = some (.cells #[.int .i64 ((l.take i).foldl (blk1 l t) 0)] 3 (0, 0)) ∧ wr.heap[w.heap.size]? = some (.cells #[.slice A l.length c] 76 (0, 0)) ∧ wr.heap[w.heap.size + 1]? = some (.cells #[.int .i64 t] 3 (0, 0)) ∧ Below w.heap.size w wr)
  case atStart => exact ⟨0, by omega, by go_num, hgm, hgl, hgt, hb'⟩
  case round =>
    clear hgm hgl hgt hb'
    obtain ⟨i, hi, rfl, hgm, hgl, hgt, hbr⟩ := hrel
    by_cases ci : i < l.length
    · obtain ⟨ad, A3, c3, x, rfl, hx, e0, e1, e2, e3, hlc, hC⟩ := el44 H.out i ci
      have e0 := be_cell hbr e0
      have e1 := be_cell hbr e1
      have e2 := be_cell hbr e2
      have e3 := be_cell hbr e3
      have HC := Aside0.mk hC
      have hC9 := hC.2.1
      have hs := Aside0.mk (foldl_snoc (blk1 l t) 0 l i ci)
      rw [hx.out] at hs
      clear hC
      have hgm1 := blk_al hgm (.cells #[.int .i64 x.f0, .int .i64 x.f1, .int .i64 x.f2, .slice A3 x.f3.length c3] 44)
      have hgl1 := blk_al hgl (.cells #[.int .i64 x.f0, .int .i64 x.f1, .int .i64 x.f2, .slice A3 x.f3.length c3] 44)
      have hgt1 := blk_al hgt (.cells #[.int .i64 x.f0, .int .i64 x.f1, .int .i64 x.f2, .slice A3 x.f3.length c3] 44)
      have hb1 := below_alloc hbr (.cells #[.int .i64 x.f0, .int .i64 x.f1, .int .i64 x.f2, .slice A3 x.f3.length c3] 44)
      have y0 := bx1 hgt1
      clear hgm hgl hgt hbr
      generalize (l.take i).foldl (blk1 l t) 0 = m at hs hgm1
      by_cases cd : x.f1 ≤ t
      · have hs2 := Aside0.mk (hs.out.trans (if_pos cd))
        go_wp2
        go_roundg (l.length - i - 1)
        case measure => omega
        case rel => exact ⟨i + 1, by omega, by go_num, by rw [hs2.out]; exact hgm1, hgl1, hgt1, hb1⟩
      · have hs2 := Aside0.mk (hs.out.trans (if_neg cd))
        go_wp2
        clear y0
        go_loopg [29] x.f3.length (fun k v29 wi => ∃ j : Nat, j + k = x.f3.length ∧ v29 = .int .i64 j ∧ wi.heap[w2.heap.size]? = some (.cells #[.int .i64 ((x.f3.take j).foldl (lookI l t) m)] 3 (0, 0)) ∧ wi.heap[w.heap.size]? = some (.cells #[.slice (some ad) l.length c] 76 (0, 0)) ∧ wi.heap[w.heap.size + 1]? = some (.cells #[.int .i64 t] 3 (0, 0)) ∧ Below w.heap.size w wi)
        case atStart => exact ⟨0, by omega, by go_num, hgm1, hgl1, hgt1, hb1⟩
        case round =>
          clear hgm1 hgl1 hgt1 hb1 e0 e1 e2 e3
          obtain ⟨j, hj, rfl, hgm, hgl, hgt, hbi⟩ := hrel
          by_cases cj : j < x.f3.length
          · obtain ⟨ad2, s, rfl, hss, h0, h1, h2⟩ := el89 (Kd.C_below HC.out hbi) j cj
            have hq := Aside0.mk (foldl_snoc (lookI l t) m x.f3 j cj)
            rw [hss.out] at hq
            generalize (x.f3.take j).foldl (lookI l t) m = n at hq hgm
            have hbi1 := below_alloc hbi (.cells #[.int .i64 s.f0, .int .i64 s.f1, .int .i64 s.f2] 89)
            have hgt2 := blk_al hgt (.cells #[.int .i64 s.f0, .int .i64 s.f1, .int .i64 s.f2] 89)
            have hgl2 := blk_al hgl (.cells #[.int .i64 s.f0, .int .i64 s.f1, .int .i64 s.f2] 89)
            go_wp2_with fail
            refine (blo1.calls w.heap.size (some ad) c l t n s w2.heap.size w.heap.size (w.heap.size + 1) _ hbi1.size hw2 (Kd.C_below H.out hbi1) (blk_al hgm _) hgl2 hgt2).mono ?_
            rintro e w5 ⟨rfl, hgm5, hk5, hb5⟩
            have hlw := blk_lt hgm
            clear h0 h1 h2
            go_wp2
            go_roundg (x.f3.length - j - 1)
            case measure => omega
            case rel =>
              exact ⟨j + 1, by omega, by go_num, by rw [hq.out]; exact hgm5, (hk5.2 _ (blk_lt hgl2) (by omega)).trans hgl2, (hk5.2 _ (blk_lt hgt2) (by omega)).trans hgt2, Below.trans hbi1 hb5⟩
          · have : j = x.f3.length := by omega
            subst this
            rw [List.take_length] at hgm
            have hs3 := Aside0.mk (show (l.take (i + 1)).foldl (blk1 l t) 0 = x.f3.foldl (lookI l t) m from hs2.out)
            go_wp2
            go_roundg (l.length - i - 1)
            case measure => omega
            case rel => exact ⟨i + 1, by omega, by go_num, by rw [hs3.out]; exact hgm, hgl, hgt, hbi⟩
    · have : i = l.length := by omega
      subst this
      rw [List.take_length] at hgm
      have x0 := bx1 hgm
      go_wp2
      go_ret2
      exact ⟨rfl, hbr⟩
theorem supR_iff {f : S85} : supR f = true ↔ 1 ≤ f.f1 ∧ f.f1 ≤ f.f0 ∧ f.f0 ≤ 200 := by simp [supR]
def supI (f : S85) (t : Int) : Int :=
  if t < f.f0 - f.f1 then 0 else (t - (f.f0 - f.f1)) / f.f0 * f.f1 + mx 0 (t - 2 * (f.f0 - f.f1) - (t - (f.f0 - f.f1)) / f.f0 * f.f0)
theorem supI_of {f : S85} {t q : Int} (h : ¬ t < f.f0 - f.f1) (hq : (t - (f.f0 - f.f1)) / f.f0 = q) : supI f t = q * f.f1 + mx 0 (t - 2 * (f.f0 - f.f1) - q * f.f0) := by
  unfold supI; rw [if_neg h, hq]
theorem supply_Bound.calls (f : S85) (t : Int) (w : World) (hf : supR f = true) (h0 : 0 ≤ t) (h1 : t ≤ 3000) : Ret 130 #[vF f, .int .i64 t] w (.tuple #[.int .i64 (supI f t), .int .i64 0]) := by
  have hu := Tryz.underlying85
  have hfb := supR_iff.1 hf
  have hb := @bl1 w (.cells #[.int .i64 f.f0, .int .i64 f.f1] 85)
  go_enter Tryz.func130, Tryz.ntmps130
  go_wp2_with fail
  refine (supply_Right.calls f _).mono ?_; rintro e w2 ⟨rfl, hb2⟩
  rw [hf]
  obtain ⟨x0, x1⟩ := bx2 (blk_below (blk_new w (.cells #[.int .i64 f.f0, .int .i64 f.f1] 85)) hb2)
  have hbA := below_step hb hb2
  clear hf
  by_cases cg : t < f.f0 - f.f1
  · have hv := Aside0.mk (show supI f t = 0 from if_pos cg)
    go_wp2
    go_ret2
    exact ⟨by rw [hv.out]; rfl, hbA⟩
  · have hq0 := Int.ediv_nonneg (show 0 ≤ t - (f.f0 - f.f1) by omega) (show 0 ≤ f.f0 by omega)
    have hq1 := Int.ediv_mul_le (t - (f.f0 - f.f1)) (show f.f0 ≠ 0 by omega)
    have hq2 := Int.ediv_le_self f.f0 (show 0 ≤ t - (f.f0 - f.f1) by omega)
    generalize hq : (t - (f.f0 - f.f1)) / f.f0 = q at hq0 hq1 hq2
    have hv := Aside0.mk (supI_of cg hq)
    have hm0 := Int.mul_nonneg hq0 (show 0 ≤ f.f1 by omega)
    have hm1 := Int.mul_le_mul_of_nonneg_left (show f.f1 ≤ f.f0 by omega) hq0
    have hm2 := Int.mul_nonneg hq0 (show 0 ≤ f.f0 by omega)
    go_wp2
    all_goals
      go_ret2
      refine ⟨?_, hbA⟩
      rw [hv.out]
      first
        | (rw [show mx 0 (t - 2 * (f.f0 - f.f1) - q * f.f0) = t - 2 * (f.f0 - f.f1) - q * f.f0 from by unfold mx; split <;> omega]; rfl)
        | (rw [show mx 0 (t - 2 * (f.f0 - f.f1) - q * f.f0) = 0 from by unfold mx; split <;> omega, Int.add_zero]; rfl)
def needI (l : List S44) (t : Int) : Int := demI l t + blkI l t
theorem demI_bd2 {l : List S44} {t : Int} (hl : taskA l = true) (h0 : 0 ≤ t) (h1 : t ≤ 3000) : 0 ≤ demI l t ∧ demI l t ≤ 4801600 := by
  have h2 := demI_bd t hl h0 h1 l.length (Nat.le_refl _)
  have h3 : l.length ≤ 8 := by have := hl; unfold taskA at this; rw [Bool.and_eq_true] at this; exact of_decide_eq_true this.2
  rw [List.take_length] at h2
  omega
theorem verdict_Need.calls (A : Option Addr) (c : Nat) (l : List S44) (t : Int) (w : World) (h : Kd.C k44 w A l.length l) (hT : taskA l = true) (h0 : 0 ≤ t) (h1 : t ≤ 3000) : Ret 129 #[.slice A l.length c, .int .i64 t] w (.tuple #[.int .i64 (needI l t), .int .i64 0]) := by
  have H := Aside0.mk h
  have hd := demI_bd2 hT h0 h1
  have hb := blkI_bd t hT
  have HT1 := Aside0.mk hT
  have hv := Aside0.mk (show needI l t = demI l t + blkI l t from rfl)
  clear h hT
  go_enter Tryz.func129, Tryz.ntmps129
  go_wp2_with fail
  refine (demand_Bound.calls A c l t _ H.out HT1.out h0 h1).mono ?_; rintro e w2 ⟨rfl, hb2⟩
  go_wp2_with fail
  refine (block_Of.calls A c l t _ (Kd.C_below H.out hb2) HT1.out).mono ?_; rintro e w3 ⟨rfl, hb3⟩
  go_wp2_with fail
  refine (arith_Add.calls (demI l t) (blkI l t) _ hd.1 (by omega) hb.1 (by omega)).mono ?_; rintro e w4 ⟨rfl, hb4⟩
  go_wp2
  go_ret2
  exact ⟨by rw [hv.out]; rfl, below_step (below_step hb2 hb3) hb4⟩
def verdict_Cycle.T3 : Bool × List (List Nat × List Nat) := (true, [([], []), ([0], [0]), ([], []), ([2], [2]), ([3], [3]), ([1, 0, 1], [1]), ([4, 5, 0, 1, 2, 3, 4, 5], [4])])
def verdict_Cycle.B3 : List Nat := [0, 1, 0, 4, 12, 3, 63]
theorem verdict_Cycle.tab3 : rtab .any (opsOf Tryz.f114 3) = verdict_Cycle.T3 := by kernel_rfl
theorem verdict_Cycle.bits3 : waitsOk verdict_Cycle.T3.2 verdict_Cycle.B3 = true := by kernel_rfl
def verdict_Cycle.T10 : Bool × List (List Nat × List Nat) := (true, [([], []), ([], []), ([], []), ([2], [2]), ([1, 3], [1, 3]), ([0, 0], [0]), ([4, 5, 0, 1, 2, 3, 4, 5], [1, 4])])
def verdict_Cycle.B10 : List Nat := [0, 0, 0, 4, 14, 1, 63]
theorem verdict_Cycle.tab10 : rtab .any (opsOf Tryz.f114 10) = verdict_Cycle.T10 := by kernel_rfl
theorem verdict_Cycle.bits10 : waitsOk verdict_Cycle.T10.2 verdict_Cycle.B10 = true := by kernel_rfl
def cyc1 (x : S44) : Option (Int × Int) → Option (Int × Int)
  | none => none
  | some (c, far) => if 3000 < lcmI c x.f2 then none else some (lcmI c x.f2, mx far x.f1)
def cycL (f : S85) (l : List S44) : Option (Int × Int) := l.foldl (fun s x => cyc1 x s) (some (f.f0, 2 * f.f0))
def cycI (l : List S44) (f : S85) : Option (Int × Int) :=
  match cycL f l with
  | none => none
  | some (c, far) => if 3000 < c + far then none else some (c, c + far)
theorem cycL_snoc (f : S85) (l : List S44) (i : Nat) (hi : i < l.length) : cycL f (l.take (i + 1)) = cyc1 l[i] (cycL f (l.take i)) := foldl_snoc (fun s x => cyc1 x s) (some (f.f0, 2 * f.f0)) l i hi
theorem cycL_none (f : S85) (l : List S44) (i : Nat) (h : cycL f (l.take i) = none) : cycL f l = none := by
  unfold cycL at h ⊢
  rw [← List.take_append_drop i l, List.foldl_append, h]
  generalize l.drop i = m
  induction m with
  | nil => rfl
  | cons x m ih => exact ih
theorem lcmI_bd {a b : Int} (ha : 1 ≤ a) (hb : 1 ≤ b) : 1 ≤ lcmI a b ∧ lcmI a b ≤ a * b := by
  have hg : 0 < Int.gcd a b := Int.gcd_pos_of_ne_zero_left _ (by omega)
  have h1 : (Int.gcd a b : Int) ∣ a := Int.gcd_dvd_left ..
  have h2 := Int.le_of_dvd (by omega) h1
  have h3 : 1 ≤ a / (Int.gcd a b : Nat) := by
    have := Int.ediv_pos_of_pos_of_dvd (show 0 < a by omega) (show (0 : Int) ≤ (Int.gcd a b : Nat) by omega) h1
    omega
  have h4 := Int.ediv_le_self ((Int.gcd a b : Nat) : Int) (show 0 ≤ a by omega)
  unfold lcmI
  have h5 := Int.mul_le_mul h3 hb (by omega) (by omega)
  have h6 := Int.mul_le_mul_of_nonneg_right h4 (show 0 ≤ b by omega)
  omega
def cycV : Option (Int × Int) → Value
  | none => .tuple #[.int .i64 0, .int .i64 0, .int .i64 5]
  | some p => .tuple #[.int .i64 p.1, .int .i64 p.2, .int .i64 0]
theorem verdict_Cycle.calls (A : Option Addr) (c : Nat) (l : List S44) (f : S85) (w : World) (h : Kd.C k44 w A l.length l) (hT : taskA l = true) (hf : supR f = true) :
    Ret 114 #[.slice A l.length c, vF f] w (cycV (cycI l f)) := by
  have hu := Tryz.underlying44
  have hu2 := Tryz.underlying85
  have H := Aside0.mk h
  have HT1 := Aside0.mk hT
  have hfb := supR_iff.1 hf
  have HF1 := Aside0.mk hf
  have hl := h.2.1
  clear h hT hf
  go_enter Tryz.func114, Tryz.ntmps114
  have hb := @bl1 w (.cells #[.int .i64 f.f0, .int .i64 f.f1] 85)
  go_wp2_with fail
  refine (task_All.calls A c l _ (C_alloc H.out _)).mono ?_; rintro e w2 ⟨rfl, hb2⟩
  rw [HT1.out]
  have hB2 := blk_below (blk_new w (.cells #[.int .i64 f.f0, .int .i64 f.f1] 85)) hb2
  obtain ⟨x0, x1⟩ := bx2 hB2
  have hbA := below_step hb hb2
  go_wp2_with fail
  refine (supply_Right.calls f _).mono ?_; rintro e w3 ⟨rfl, hb3⟩
  rw [HF1.out]
  clear x0 x1
  obtain ⟨x0, x1⟩ := bx2 (blk_below hB2 hb3)
  have hbB := below_step hbA hb3
  clear hb hb2 hb3 hbA hB2
  go_wp2
  refine st_ 7 (fun w' => Below w.heap.size w w' ∧ w'.cell? (⟨w.heap.size, 0, none⟩) = some (.int .i64 f.f0)) [] verdict_Cycle.tab3 verdict_Cycle.bits3 ⟨below_drew1 hbB, x0⟩ (h := fun HT HW hHeld => ?_)
  repeat (first | refine pn_ HT (h := ?_) | refine tn_ HT HW hHeld (h := ?_) | refine zn_ HT (h := ?_))
  refine dn_ HT (h := ?_)
  have hbC := below_drew hbB
  clear HT HW hHeld x0 x1 hbB
  generalize w3.drew = w4 at hbC ⊢
  go_wp2
  go_loopg [7, 8, 28] l.length (fun k v7 v8 v28 wr => ∃ (i : Nat) (cy far : Int), i + k = l.length ∧ v28 = .int .i64 i ∧ v7 = .int .i64 cy ∧ v8 = .int .i64 far ∧ Aside0 (cycL f (l.take i) = some (cy, far)) ∧ 1 ≤ cy ∧ cy ≤ 3000 ∧ 0 ≤ far ∧ far ≤ 400 ∧ Below w.heap.size w wr)
  case atStart => exact ⟨0, f.f0, 2 * f.f0, by omega, rfl, rfl, by first | rfl | (rw [w64 (show (-9223372036854775808 : Int) ≤ 2 * f.f0 by omega) (by omega)]), ⟨rfl⟩, by omega, by omega, by omega, by omega, hbC⟩
  case round =>
    clear hbC
    obtain ⟨i, cy, far, hi, rfl, rfl, rfl, hcy, hc1, hc2, hf1, hf2, hbr⟩ := hrel
    by_cases ci : i < l.length
    · obtain ⟨ad, A3, c3, x, rfl, hx, e0, e1, e2, e3, hlc, hC⟩ := el44 (Kd.C_below H.out hbr) i ci
      have hxo := taskR_own (show taskR x = true by rw [← hx.out]; exact taskA_task HT1.out ci)
      have hsn := Aside0.mk (show cycL f (l.take (i + 1)) = if 3000 < lcmI cy x.f2 then none else some (lcmI cy x.f2, mx far x.f1) by rw [cycL_snoc f l i ci, hcy.out, hx.out]; rfl)
      have hlb := lcmI_bd hc1 (show 1 ≤ x.f2 by omega)
      have hB := blk_new wr (.cells #[.int .i64 x.f0, .int .i64 x.f1, .int .i64 x.f2, .slice A3 x.f3.length c3] 44)
      have hb1 := below_alloc hbr (.cells #[.int .i64 x.f0, .int .i64 x.f1, .int .i64 x.f2, .slice A3 x.f3.length c3] 44)
      obtain ⟨z0, z1, z2, z3⟩ := bx4 hB
      go_wp2_with fail
      refine (arith_Lcm.calls cy x.f2 _ hc1 (by omega) (by omega) (by omega)).mono ?_; rintro e w6 ⟨rfl, hb6⟩
      have hB6 := blk_below hB hb6
      have hb7 := below_step hb1 hb6
      have hp := Int.mul_le_mul hc2 (show x.f2 ≤ 200 by omega) (by omega) (by omega)
      generalize lcmI cy x.f2 = L at hsn hlb ⊢
      have hL : L ≤ 600000 := by omega
      have hL1 := hlb.1
      clear z0 z1 z2 z3 e0 e1 e2 e3 hlb hp hB hb1 hb6
      by_cases cL : 3000 < L
      · have hv := Aside0.mk (show cycI l f = none by unfold cycI; rw [cycL_none f l (i + 1) (by rw [hsn.out, if_pos cL])])
        go_wp2
        (try simp only [Exit.inBlock, Exit.then])
        refine bodyPost_ret (results_list (rs := [.tmp 4, .tmp 5, .tmp 6]) rfl (by simp) (.tmp (.tmp (.tmp .nil)))) rfl ?_
        exact ⟨by rw [hv.out]; rfl, hb7⟩
      · have hs2 := Aside0.mk (hsn.out.trans (if_neg cL))
        obtain ⟨z0, z1, z2, z3⟩ := bx4 hB6
        go_wp2
        refine st_ 7 (fun w' => Below w.heap.size w w' ∧ w'.cell? (⟨wr.heap.size, 1, none⟩) = some (.int .i64 x.f1)) [] verdict_Cycle.tab10 verdict_Cycle.bits10 ⟨below_drew1 hb7, z1⟩ (h := fun HT HW hHeld => ?_)
        repeat (first | refine pn_ HT (h := ?_) | refine tn_ HT HW hHeld (h := ?_) | refine zn_ HT (h := ?_))
        refine dn_ HT (h := ?_)
        have hb8 := below_drew hb7
        have hmx : 0 ≤ mx far x.f1 ∧ mx far x.f1 ≤ 400 := by unfold mx; split <;> omega
        rw [show (if far < x.f1 then x.f1 else far) = mx far x.f1 from rfl]
        generalize mx far x.f1 = M at hmx hs2 ⊢
        go_wp2
        go_roundg (l.length - i - 1)
        case measure => omega
        case rel => exact ⟨i + 1, L, M, by omega, by go_num, rfl, rfl, hs2, hL1, by omega, hmx.1, hmx.2, hb8⟩
    · have : i = l.length := by omega
      subst this
      have hcc := hcy.out
      rw [List.take_length] at hcc
      have hcy2 := Aside0.mk (show cycI l f = if 3000 < cy + far then none else some (cy, cy + far) by unfold cycI; rw [hcc])
      by_cases cL : 3000 < cy + far
      · have hv := Aside0.mk (hcy2.out.trans (if_pos cL))
        go_wp2
        (try simp only [Exit.inBlock, Exit.then])
        refine bodyPost_ret (results_list (rs := [.tmp 4, .tmp 5, .tmp 6]) rfl (by simp) (.tmp (.tmp (.tmp .nil)))) rfl ?_
        exact ⟨by rw [hv.out]; rfl, hbr⟩
      · have hv := Aside0.mk (hcy2.out.trans (if_neg cL))
        go_wp2
        (try simp only [Exit.inBlock, Exit.then])
        refine bodyPost_ret (results_list (rs := [.tmp 4, .tmp 5, .tmp 6]) rfl (by simp) (.tmp (.tmp (.tmp .nil)))) rfl ?_
        exact ⟨by rw [hv.out]; rfl, hbr⟩
end Go.Proofs.YtmngaagojkihbaaGreat.FTop
namespace Go.Proofs.YtmngaagojkihbaaGreat.FTop
open Go.RowKit Go.Proofs.YtmngaagojkihbaaGreatW.PrintWords Go.Proofs.YtmngaagojkihbaaGreatW.PrintLast Go.Proofs.YtmngaagojkihbaaGreatW.PrintMore
attribute [local go_sem] Oper.semAt_some
attribute [local go_sem] max2_int min2_int max_two min_two
set_option linter.unusedVariables false
set_option linter.unusedSimpArgs false
set_option maxHeartbeats 8000000
set_option maxRecDepth 100000
open Go.Shelf
def failB (l : List S44) (f : S85) (t : Nat) : Bool := decide (supI f t < needI l t)
def failL (l : List S44) (f : S85) (n : Nat) : List Int := ((List.range n).filter (failB l f)).map (fun (k : Nat) => (k : Int))
theorem failL_succ (l : List S44) (f : S85) (n : Nat) : failL l f (n + 1) = failL l f n ++ if failB l f n then [(n : Int)] else [] := by
  unfold failL
  rw [List.range_succ, List.filter_append, List.map_append]
  cases h : failB l f n <;> simp [List.filter_cons, h]
theorem failL_pre (l : List S44) (f : S85) (n m : Nat) : failL l f n <+: failL l f (n + m) := by
  induction m with
  | zero => exact List.prefix_refl _
  | succ m ih => rw [← Nat.add_assoc, failL_succ]; exact ih.trans (List.prefix_append _ _)
theorem grown_below {W W' : World} (h : Below W.heap.size W W') (row : Option Nat) : W.grownBy W' row := ⟨h.os, h.tape, h.output, h.size, fun k hk _ => h.block k hk⟩
theorem fails_stops (A : Option Addr) (c : Nat) (l : List S44) (f : S85) (e : Nat) (ge gl gf : Nat) (n : Nat) (hn : 1 ≤ n) (w : World) (h : Kd.C k44 w A l.length l) (hT : taskA l = true) (hf : supR f = true) (he : e ≤ 3000)
    (hge : w.heap[ge]? = some (.cells #[.int .i64 e] 3 (0, 0))) (hgl : w.heap[gl]? = some (.cells #[.slice A l.length c] 76 (0, 0))) (hgf : w.heap[gf]? = some (.cells #[.int .i64 f.f0, .int .i64 f.f1] 85 (0, 0))) :
    SeqStopsK Fence.wide n Tryz.prog 128 #[.pointer (some ⟨ge, 0, none⟩), .pointer (some ⟨gl, 0, none⟩), .pointer (some ⟨gf, 0, none⟩)] (fun t : Int => #[Value.int .i64 t]) (Below w.heap.size) (fun xs => xs = failL l f (e + 1)) (fun pre => pre <+: failL l f (e + 1) ∧ pre ≠ []) (failL l f (e + 1)).length w := fun y J Jx W hW hJ hJx hY h0 => by
  have hu := Tryz.underlying85
  have H := Aside0.mk h
  have HT1 := Aside0.mk hT
  have HF1 := Aside0.mk hf
  have HGE := Aside0.mk hge
  have HGL := Aside0.mk hgl
  have HGF := Aside0.mk hgf
  clear h hT hf hge hgl hgf
  refine callsIn_of_wp Tryz.func128 rfl trivial ?_ rfl
  simp only [Tryz.ntmps128, List.size_toArray, List.length_cons, List.length_nil, Nat.reduceAdd, Nat.reduceSub, Array.replicate_succ, Array.replicate_zero, List.push_toArray, List.append_toArray, List.nil_append, List.cons_append]
  gi_wp2
  gi_loopg [5] (e + 1) (fun k v5 wr => ∃ i : Nat, i + k = e + 1 ∧ v5 = .int .i64 i ∧ J (failL l f i) wr ∧ Below w.heap.size w wr)
  case atStart => exact ⟨0, by omega, rfl, h0, hW⟩
  case round =>
    obtain ⟨i, hi, rfl, hj, hbr⟩ := hrel
    obtain x0 := bx1 (blk_below HGE.out hbr)
    by_cases ci : i < e + 1
    · have cl : (i : Int) ≤ (e : Int) := by omega
      obtain y0 := bx1 (blk_below HGL.out hbr)
      gi_wp2_with fail
      refine ⟨trivial, (callsIn_wide.2 (verdict_Need.calls A c l i wr (Kd.C_below H.out hbr) HT1.out (by omega) (by omega))).mono ?_⟩; rintro _ w2 ⟨rfl, hb2⟩
      have hbA := Below.trans hbr (Below.mono hb2 hbr.size)
      have hj2 := hJ _ _ _ none hj (grown_below hb2 none) (fun r hr => by cases hr)
      clear x0 y0
      obtain ⟨z0, z1⟩ := bx2 (blk_below HGF.out hbA)
      gi_wp2_with fail
      refine ⟨trivial, (callsIn_wide.2 (supply_Bound.calls f i w2 HF1.out (by omega) (by omega))).mono ?_⟩; rintro _ w3 ⟨rfl, hb3⟩
      have hbB := Below.trans hbA (Below.mono hb3 hbA.size)
      have hj3 := hJ _ _ _ none hj2 (grown_below hb3 none) (fun r hr => by cases hr)
      clear z0 z1
      have hsn := Aside0.mk (failL_succ l f i)
      have hpre := Aside0.mk (show failL l f (i + 1) <+: failL l f (e + 1) by
        have := failL_pre l f (i + 1) (e + 1 - (i + 1)); rwa [show i + 1 + (e + 1 - (i + 1)) = e + 1 by omega] at this)
      by_cases cf : supI f i < needI l i
      · have hs2 := Aside0.mk (show failL l f (i + 1) = failL l f i ++ [(i : Int)] by rw [hsn.out, show failB l f i = true from decide_eq_true cf]; rfl)
        obtain ⟨fn, tmps, assign, body, hy, hR⟩ := hY (failL l f i) i w3 hj3 (by have := hpre.out.length_le; rw [hs2.out, List.length_append, List.length_singleton] at this; omega)
        generalize supI f i = sp at cf ⊢
        generalize needI l i = nd at cf ⊢
        gi_wp2
        refine hR.mono ?_
        rintro _ W3 (⟨rfl, hJ3, hk3⟩ | ⟨rfl, hx3⟩)
        · gi_wp2
          gi_roundg (e + 1 - i - 1)
          case measure => omega
          case rel => exact ⟨i + 1, by omega, by go_num, by rw [hs2.out]; exact hJ3, Below.trans hbB hk3⟩
        · gi_wp2
          refine bodyPost_ret (results_none rfl _ _ _) rfl ?_
          exact ⟨⟨_, rfl⟩, .inr ⟨failL l f i ++ [(i : Int)], ⟨by rw [← hs2.out]; exact hpre.out, by simp⟩, hx3⟩⟩
      · have hs2 := Aside0.mk (show failL l f (i + 1) = failL l f i by rw [hsn.out, show failB l f i = false from decide_eq_false cf]; simp)
        generalize supI f i = sp at cf ⊢
        generalize needI l i = nd at cf ⊢
        gi_wp2
        refine ⟨fun _ h => (by cases h), ?_⟩
        gi_wp2
        gi_roundg (e + 1 - i - 1)
        case measure => omega
        case rel => exact ⟨i + 1, by omega, by go_num, by rw [hs2.out]; exact hj3, hbB⟩
    · have : i = e + 1 := by omega
      subst this
      gi_wp2
      go_end0
      exact ⟨⟨_, rfl⟩, .inl ⟨_, rfl, hj⟩⟩
theorem verdict_fails.calls (A : Option Addr) (c : Nat) (l : List S44) (f : S85) (e : Int) (w : World) :
    Calls Tryz.prog 124 #[.slice A l.length c, vF f, .int .i64 e] w fun r w' => ∃ ge gl gf, r = .returned (.func (.func 128) #[] #[.pointer (some ⟨ge, 0, none⟩), .pointer (some ⟨gl, 0, none⟩), .pointer (some ⟨gf, 0, none⟩)]) ∧ w'.heap[ge]? = some (.cells #[.int .i64 e] 3 (0, 0)) ∧ w'.heap[gl]? = some (.cells #[.slice A l.length c] 76 (0, 0)) ∧ w'.heap[gf]? = some (.cells #[.int .i64 f.f0, .int .i64 f.f1] 85 (0, 0)) ∧ Below w.heap.size w w' := by
  have hu := Tryz.underlying85
  have hgl := blk_al (blk_al (blk_new w (.cells #[.slice A l.length c] 76)) (.cells #[.int .i64 f.f0, .int .i64 f.f1] 85)) (.cells #[.int .i64 e] 3)
  have hgf := blk_al (blk_new (w.alloc (.cells #[.slice A l.length c] 76)) (.cells #[.int .i64 f.f0, .int .i64 f.f1] 85)) (.cells #[.int .i64 e] 3)
  have hge := blk_new ((w.alloc (.cells #[.slice A l.length c] 76)).alloc (.cells #[.int .i64 f.f0, .int .i64 f.f1] 85)) (.cells #[.int .i64 e] 3)
  rw [alsz] at hgf
  rw [alsz, alsz] at hge
  go_enter Tryz.func124, Tryz.ntmps124
  go_wp2
  go_ret
  exact ⟨_, _, _, rfl, hge, hgl, hgf, bl3⟩
theorem cycL_bd {l : List S44} {f : S85} (hT : taskA l = true) (hf : supR f = true) : ∀ i, i ≤ l.length → ∀ c far, cycL f (l.take i) = some (c, far) → 1 ≤ c ∧ c ≤ 3000 ∧ 0 ≤ far := by
  have hfb := supR_iff.1 hf
  intro i
  induction i with
  | zero =>
    intro _ c far h
    have h2 : some (f.f0, 2 * f.f0) = some (c, far) := h
    have h3 := Option.some.inj h2
    injection h3 with h4 h5
    omega
  | succ i ih =>
    intro hi c far h
    rw [cycL_snoc f l i (by omega)] at h
    have hx := taskR_own (taskA_task hT (show i < l.length by omega))
    cases hq : cycL f (l.take i) with
    | none => rw [hq] at h; cases h
    | some p =>
      obtain ⟨c0, far0⟩ := p
      have h2 := ih (by omega) c0 far0 hq
      rw [hq] at h
      have h : (if 3000 < lcmI c0 l[i].f2 then none else some (lcmI c0 l[i].f2, mx far0 l[i].f1)) = some (c, far) := h
      have h3 := lcmI_bd h2.1 (show 1 ≤ l[i].f2 by omega)
      split at h
      · cases h
      · have h4 := Option.some.inj h
        have h5 : lcmI c0 l[i].f2 = c := congrArg Prod.fst h4
        have h6 : mx far0 l[i].f1 = far := congrArg Prod.snd h4
        unfold mx at h6
        split at h6 <;> omega
theorem cycI_bd {l : List S44} {f : S85} {p : Int × Int} (hT : taskA l = true) (hf : supR f = true) (h : cycI l f = some p) : 1 ≤ p.1 ∧ p.1 ≤ p.2 ∧ p.2 ≤ 3000 := by
  unfold cycI at h
  cases hq : cycL f l with
  | none => rw [hq] at h; cases h
  | some q =>
    obtain ⟨c, far⟩ := q
    have h2 := cycL_bd hT hf l.length (Nat.le_refl _) c far (by rw [List.take_length]; exact hq)
    rw [hq] at h
    simp only at h
    split at h
    · cases h
    · have h3 := Option.some.inj h
      rw [← h3]
      simp only
      omega
theorem blk_own {W W' : World} {row : Option Nat} {g : Nat} {cs : Array Value} {t : TypeId} {d : Nat × Nat} (h : W.heap[g]? = some (.cells cs t d)) (hg : W.grownBy W' row) (hr : ∀ r, row = some r → ∃ o : Obj, W.heap[r]? = some o ∧ o.isCells = false) : W'.heap[g]? = some (.cells cs t d) :=
  (hg.block g (blk_lt h) (fun he => by obtain ⟨o, ho, hc⟩ := hr g he.symm; rw [h] at ho; cases ho; cases hc)).trans h
def failsB (l : List S44) (f : S85) (e : Int) : Bool := !(failL l f (e.toNat + 1)).isEmpty
theorem ag3 (w : World) : (isAgg 3).run Tryz.prog w = .ok false w := by kernel_rfl
theorem ag4 (w : World) : (isAgg 4).run Tryz.prog w = .ok false w := by kernel_rfl
theorem ag27 (w : World) : (isAgg 27).run Tryz.prog w = .ok false w := by kernel_rfl
theorem lv3 {w : World} {t : TypeId} {b : Nat} {v : Value} (ha : (isAgg t).run Tryz.prog w = .ok false w) (h : w.cell? ⟨b, 0, none⟩ = some v) : (loadVar t ⟨b, 0, none⟩).run Tryz.prog w = .ok v w := by
  unfold loadVar
  rw [Sem.run_bind, ha]
  simp only [Result.andThen_ok, Bool.false_eq_true, if_false]
  go_simp
theorem res115 {tmps : Array Value} {w : World} {b1 b2 b3 : Nat} {v1 v2 v3 : Value} (h4 : tmps.getD 4 undef = .pointer (some ⟨b1, 0, none⟩)) (h5 : tmps.getD 5 undef = .pointer (some ⟨b2, 0, none⟩)) (h6 : tmps.getD 6 undef = .pointer (some ⟨b3, 0, none⟩))
    (c1 : w.cell? ⟨b1, 0, none⟩ = some v1) (c2 : w.cell? ⟨b2, 0, none⟩ = some v2) (c3 : w.cell? ⟨b3, 0, none⟩ = some v3) : (results Tryz.f115 tmps).run Tryz.prog w = .ok (.tuple #[v1, v2, v3]) w := by
  rw [Array.getD_eq_getD_getElem?] at h4 h5 h6
  unfold results
  rw [show Tryz.f115.results = ([.cell 4 3, .cell 5 4, .cell 6 27] : List ResultVar).toArray from rfl, List.mapM_toArray]
  simp [List.mapM_cons, h4, h5, h6, asAddr, lv3 (ag3 w) c1, lv3 (ag4 w) c2, lv3 (ag27 w) c3]
theorem verdict_First.calls (A : Option Addr) (c : Nat) (l : List S44) (f : S85) (p : Int × Int) (w : World) (h : Kd.C k44 w A l.length l) (hT : taskA l = true) (hf : supR f = true) (hc : cycI l f = some p) :
    Calls Tryz.prog 115 #[.slice A l.length c, vF f] w fun r w' => (∃ t : Int, r = .returned (.tuple #[.int .i64 t, .bool (failsB l f p.2), .int .i64 0])) ∧ Below w.heap.size w w' := by
  have hu := Tryz.underlying85
  have hcb := cycI_bd hT hf hc
  obtain ⟨e, he⟩ : ∃ e : Nat, p.2 = e := ⟨p.2.toNat, by omega⟩
  have H := Aside0.mk h
  have HT1 := Aside0.mk hT
  have HF1 := Aside0.mk hf
  have HC1 := Aside0.mk (show cycV (cycI l f) = .tuple #[.int .i64 p.1, .int .i64 e, .int .i64 0] by rw [hc, ← he]; rfl)
  have HFB := Aside0.mk (show failsB l f p.2 = !(failL l f (e + 1)).isEmpty by unfold failsB; rw [he, Int.toNat_natCast])
  have he3 : e ≤ 3000 := by omega
  clear h hT hf hc hcb he
  refine (callsIn_wide (n := 5)).1 ?_
  refine callsIn_of_wp_marks Tryz.func115 rfl trivial ?_ rfl
  simp only [Tryz.ntmps115, List.size_toArray, List.length_cons, List.length_nil, Nat.reduceAdd, Nat.reduceSub, Array.replicate_succ, Array.replicate_zero, List.push_toArray, List.append_toArray, List.nil_append, List.cons_append]
  gi_wp2_with fail
  have z1 : (w.alloc (.cells #[.int .i64 f.f0, .int .i64 f.f1] 85)).heap.size = w.heap.size + 1 := alsz
  have z2 : ((w.alloc (.cells #[.int .i64 f.f0, .int .i64 f.f1] 85)).alloc (.cells #[.int .i64 0] 3)).heap.size = w.heap.size + 2 := by rw [alsz, z1]
  have z3 : (((w.alloc (.cells #[.int .i64 f.f0, .int .i64 f.f1] 85)).alloc (.cells #[.int .i64 0] 3)).alloc (.cells #[.bool false] 4)).heap.size = w.heap.size + 3 := by rw [alsz, z2]
  have z4 : ((((w.alloc (.cells #[.int .i64 f.f0, .int .i64 f.f1] 85)).alloc (.cells #[.int .i64 0] 3)).alloc (.cells #[.bool false] 4)).alloc (.cells #[.int .i64 0] 27)).heap.size = w.heap.size + 4 := by rw [alsz, z3]
  have hB0 := blk_al (blk_al (blk_al (blk_new w (.cells #[.int .i64 f.f0, .int .i64 f.f1] 85)) (.cells #[.int .i64 0] 3)) (.cells #[.bool false] 4)) (.cells #[.int .i64 0] 27)
  have hB1 := blk_al (blk_al (blk_new (w.alloc (.cells #[.int .i64 f.f0, .int .i64 f.f1] 85)) (.cells #[.int .i64 0] 3)) (.cells #[.bool false] 4)) (.cells #[.int .i64 0] 27)
  have hB2 := blk_al (blk_new ((w.alloc (.cells #[.int .i64 f.f0, .int .i64 f.f1] 85)).alloc (.cells #[.int .i64 0] 3)) (.cells #[.bool false] 4)) (.cells #[.int .i64 0] 27)
  have hB3 := blk_new (((w.alloc (.cells #[.int .i64 f.f0, .int .i64 f.f1] 85)).alloc (.cells #[.int .i64 0] 3)).alloc (.cells #[.bool false] 4)) (.cells #[.int .i64 0] 27)
  rw [z1] at hB1
  rw [z2] at hB2
  rw [z3] at hB3
  have hb := below_alloc (@bl3 w (.cells #[.int .i64 f.f0, .int .i64 f.f1] 85) (.cells #[.int .i64 0] 3) (.cells #[.bool false] 4)) (.cells #[.int .i64 0] 27)
  refine ⟨trivial, (callsIn_wide.2 (verdict_Cycle.calls A c l f _ (Kd.C_below H.out hb) HT1.out HF1.out)).mono ?_⟩; rintro _ w2 ⟨rfl, hb2⟩
  rw [HC1.out]
  have hB0 := Aside0.mk (blk_below hB0 hb2)
  have hB1 := Aside0.mk (blk_below hB1 hb2)
  have hB2 := Aside0.mk (blk_below hB2 hb2)
  have hB3 := Aside0.mk (blk_below hB3 hb2)
  have hbA := below_step hb hb2
  have hs2 := hb2.size
  rw [z4] at hs2
  clear hb hb2
  obtain ⟨x0, x1⟩ := bx2 hB0.out
  gi_wp2_with fail
  refine ⟨trivial, (callsIn_wide.2 (verdict_fails.calls A c l f e w2)).mono ?_⟩; rintro _ w3 ⟨ge, gl, gf, rfl, hge, hgl, hgf, hb3⟩
  have hB1 := Aside0.mk (blk_below hB1.out hb3)
  have hB2 := Aside0.mk (blk_below hB2.out hb3)
  have hB3 := Aside0.mk (blk_below hB3.out hb3)
  have hbB := below_step hbA hb3
  clear x0 x1 hB0 hbA
  have hs3 := hb3.size
  gi_wp2_with fail
  refine wpIn_rangeFunc_ownF rfl (by omega) (gf := 128) (lb := #[.pointer (some ⟨ge, 0, none⟩), .pointer (some ⟨gl, 0, none⟩), .pointer (some ⟨gf, 0, none⟩)]) rfl trivial (enters_of Tryz.func128 (by kernel_rfl) rfl)
    (fails_stops A c l f e ge gl gf (5 - 1) (by omega) w3 (Kd.C_below H.out hbB) HT1.out HF1.out he3 hge hgl hgf) belowK_t (belowK_b (Nat.le_refl _)) (Below.refl _ _) (fun _ => rfl)
    (fun pre W => (pre = [] ∧ W.heap[w.heap.size + 1]? = some (.cells #[.int .i64 0] 3 (0, 0)) ∧ W.heap[w.heap.size + 1 + 1]? = some (.cells #[.bool false] 4 (0, 0)) ∧ W.heap[w.heap.size + 1 + 1 + 1]? = some (.cells #[.int .i64 0] 27 (0, 0))) ∧ Below w.heap.size w W)
    (fun c pre W => (c = .ret ∧ ∃ t : Int, pre = [t] ∧ W.heap[w.heap.size + 1]? = some (.cells #[.int .i64 t] 3 (0, 0)) ∧ W.heap[w.heap.size + 1 + 1]? = some (.cells #[.bool true] 4 (0, 0)) ∧ W.heap[w.heap.size + 1 + 1 + 1]? = some (.cells #[.int .i64 0] 27 (0, 0))) ∧ Below w.heap.size w W)
    (OwnFrom.and (Own.from (fun s A B row hs hg hr => ⟨hs.1, blk_own hs.2.1 hg hr, blk_own hs.2.2.1 hg hr, blk_own hs.2.2.2 hg hr⟩) _) (ownFrom_below (Nat.le_refl _) hbB.size))
    (fun c => OwnFrom.and (Own.from (fun s A B row hs hg hr => by obtain ⟨hc, t, ht, h1, h2, h3⟩ := hs; exact ⟨hc, t, ht, blk_own h1 hg hr, blk_own h2 hg hr, blk_own h3 hg hr⟩) _) (ownFrom_below (Nat.le_refl _) hbB.size))
    ⟨⟨rfl, hB1.out, hB2.out, hB3.out⟩, hbB⟩
    (fun x => { tmps := #[.slice A l.length c, vF f, undef, .pointer (some ⟨w.heap.size, 0, none⟩), .pointer (some ⟨w.heap.size + 1, 0, none⟩), .pointer (some ⟨w.heap.size + 1 + 1, 0, none⟩), .pointer (some ⟨w.heap.size + 1 + 1 + 1, 0, none⟩), .int .i64 p.1, .int .i64 e, .int .i64 0, .int .i64 x,
      .tuple #[.int .i64 p.1, .int .i64 e, .int .i64 0], .slice A l.length c, .agg #[.int .i64 f.f0, .int .i64 f.f1], .tuple #[.int .i64 p.1, .int .i64 e, .int .i64 0], .int .i64 p.1, .int .i64 e, .int .i64 0, .int .i64 0, .bool false, undef, .slice A l.length c, .agg #[.int .i64 f.f0, .int .i64 f.f1], .int .i64 e, .func (.func 128) #[] #[.pointer (some ⟨ge, 0, none⟩), .pointer (some ⟨gl, 0, none⟩), .pointer (some ⟨gf, 0, none⟩)], .int .i64 x, undef], defers := [] }) ?assign ?body ?done ?stop
  case assign =>
    intro y x W K hK
    gi_wp2
    exact hK
  case body =>
    rintro y pre x W ⟨⟨rfl, h1, h2, h3⟩, hbw⟩ _
    have c1 := bx1 h1
    have c2 := bx1 h2
    have c3 := bx1 h3
    have f1 := blk_frozen h1 0
    have f2 := blk_frozen h2 0
    have f3 := blk_frozen h3 0
    gi_wp2
    have q1 := blk_far (blk_far (blk_set h1 0 (.int .i64 x)) (p := ⟨w.heap.size + 1 + 1, 0, none⟩) (by show w.heap.size + 1 ≠ w.heap.size + 1 + 1; omega) (.bool true)) (p := ⟨w.heap.size + 1 + 1 + 1, 0, none⟩) (by show w.heap.size + 1 ≠ w.heap.size + 1 + 1 + 1; omega) (.int .i64 0)
    have q2 := blk_far (blk_set (blk_far h2 (p := ⟨w.heap.size + 1, 0, none⟩) (by show w.heap.size + 1 + 1 ≠ w.heap.size + 1; omega) (.int .i64 x)) 0 (.bool true)) (p := ⟨w.heap.size + 1 + 1 + 1, 0, none⟩) (by show w.heap.size + 1 + 1 ≠ w.heap.size + 1 + 1 + 1; omega) (.int .i64 0)
    have q3 := blk_set (blk_far (blk_far h3 (p := ⟨w.heap.size + 1, 0, none⟩) (by show w.heap.size + 1 + 1 + 1 ≠ w.heap.size + 1; omega) (.int .i64 x)) (p := ⟨w.heap.size + 1 + 1, 0, none⟩) (by show w.heap.size + 1 + 1 + 1 ≠ w.heap.size + 1 + 1; omega) (.bool true)) 0 (.int .i64 0)
    have hbw3 := ((hbw.setCell (p := ⟨w.heap.size + 1, 0, none⟩) (by show _ ≤ w.heap.size + 1; omega) (.int .i64 x)).setCell (p := ⟨w.heap.size + 1 + 1, 0, none⟩) (by show _ ≤ w.heap.size + 1 + 1; omega) (.bool true)).setCell (p := ⟨w.heap.size + 1 + 1 + 1, 0, none⟩) (by show _ ≤ w.heap.size + 1 + 1 + 1; omega) (.int .i64 0)
    exact ⟨((KeepsOthers.setCell _ _ _).trans (KeepsOthers.setCell _ _ _)).trans (KeepsOthers.setCell _ _ _), ⟨rfl, x, rfl, q1, q2, q3⟩, hbw3⟩
  case done =>
    rintro D xs W hD rfl ⟨⟨hx, h1, h2, h3⟩, hbw⟩ hK
    have c1 := bx1 h1
    have c2 := bx1 h2
    have c3 := bx1 h3
    have f1 := blk_frozen h1 0
    have f2 := blk_frozen h2 0
    have f3 := blk_frozen h3 0
    gi_wp2
    have q1 := blk_far (blk_far (blk_set h1 0 (.int .i64 0)) (p := ⟨w.heap.size + 1 + 1, 0, none⟩) (by show w.heap.size + 1 ≠ w.heap.size + 1 + 1; omega) (.bool false)) (p := ⟨w.heap.size + 1 + 1 + 1, 0, none⟩) (by show w.heap.size + 1 ≠ w.heap.size + 1 + 1 + 1; omega) (.int .i64 0)
    have q2 := blk_far (blk_set (blk_far h2 (p := ⟨w.heap.size + 1, 0, none⟩) (by show w.heap.size + 1 + 1 ≠ w.heap.size + 1; omega) (.int .i64 0)) 0 (.bool false)) (p := ⟨w.heap.size + 1 + 1 + 1, 0, none⟩) (by show w.heap.size + 1 + 1 ≠ w.heap.size + 1 + 1 + 1; omega) (.int .i64 0)
    have q3 := blk_set (blk_far (blk_far h3 (p := ⟨w.heap.size + 1, 0, none⟩) (by show w.heap.size + 1 + 1 + 1 ≠ w.heap.size + 1; omega) (.int .i64 0)) (p := ⟨w.heap.size + 1 + 1, 0, none⟩) (by show w.heap.size + 1 + 1 + 1 ≠ w.heap.size + 1 + 1; omega) (.bool false)) 0 (.int .i64 0)
    have hbw3 := ((hbw.setCell (p := ⟨w.heap.size + 1, 0, none⟩) (by show _ ≤ w.heap.size + 1; omega) (.int .i64 0)).setCell (p := ⟨w.heap.size + 1 + 1, 0, none⟩) (by show _ ≤ w.heap.size + 1 + 1; omega) (.bool false)).setCell (p := ⟨w.heap.size + 1 + 1 + 1, 0, none⟩) (by show _ ≤ w.heap.size + 1 + 1 + 1; omega) (.int .i64 0)
    have hK3 := (Below.heap_setCell _ ⟨w.heap.size + 1 + 1 + 1, 0, none⟩ (.int .i64 0) D (by show D ≠ w.heap.size + 1 + 1 + 1; omega)).trans ((Below.heap_setCell _ ⟨w.heap.size + 1 + 1, 0, none⟩ (.bool false) D (by show D ≠ w.heap.size + 1 + 1; omega)).trans ((Below.heap_setCell W ⟨w.heap.size + 1, 0, none⟩ (.int .i64 0) D (by show D ≠ w.heap.size + 1; omega)).trans hK))
    refine ⟨by simp, .inl ⟨_, _, rfl, run_takeDeferred hK3, ?_⟩⟩
    refine ⟨_, res115 rfl rfl rfl ((blk_cell ((World.putObj_heap_other (by omega)).trans q1) 0).trans rfl) ((blk_cell ((World.putObj_heap_other (by omega)).trans q2) 0).trans rfl) ((blk_cell ((World.putObj_heap_other (by omega)).trans q3) 0).trans rfl), ?_⟩
    exact ⟨⟨_, by rw [HFB.out, hx]; rfl⟩, hbw3.trans (belowK_b (w := w) (Nat.le_refl _) _ D _ _ (by have := hbB.size; omega) hK3 rfl rfl)⟩
  case stop =>
    rintro D q pre W hD hSp ⟨⟨rfl, t, rfl, h1, h2, h3⟩, hbw⟩ hK
    gi_wp2
    have hne : (failL l f (e + 1)).isEmpty = false := by
      obtain ⟨r, hr⟩ := hSp.1
      rw [← hr]; rfl
    refine ⟨by simp, .inl ⟨_, _, rfl, run_takeDeferred hK, ?_⟩⟩
    refine ⟨_, res115 rfl rfl rfl ((blk_cell ((World.putObj_heap_other (by omega)).trans h1) 0).trans rfl) ((blk_cell ((World.putObj_heap_other (by omega)).trans h2) 0).trans rfl) ((blk_cell ((World.putObj_heap_other (by omega)).trans h3) 0).trans rfl), ?_⟩
    exact ⟨⟨_, by rw [HFB.out, hne]; rfl⟩, hbw.trans (belowK_b (w := w) (Nat.le_refl _) _ D _ _ (by have := hbB.size; omega) hK rfl rfl)⟩
end Go.Proofs.YtmngaagojkihbaaGreat.FTop
