/- Contracts of functions that the statement TopAlone reaches, and plain lemmas. No condition. -/
import Derived.Test.YtmngaagojkihbaaGreatZ04
namespace Go.Proofs.YtmngaagojkihbaaGreat.FTop
open Go.RowKit Go.Proofs.YtmngaagojkihbaaGreatW.PrintWords Go.Proofs.YtmngaagojkihbaaGreatW.PrintLast Go.Proofs.YtmngaagojkihbaaGreatW.PrintMore
attribute [local go_sem] max2_int min2_int max_two min_two
set_option linter.unusedVariables false
set_option linter.unusedSimpArgs false
set_option maxHeartbeats 8000000
set_option maxRecDepth 100000
def secOk (c : Int) (l : List S89) (i : Nat) : Bool := mayT c (l.getD i z89) && (l.take i).all (fun a => fitsT a (l.getD i z89))
def secsR (c : Int) (l : List S89) : Bool := (List.range l.length).all (secOk c l)
def taskR (t : S44) : Bool := ownT t && secsR t.f0 t.f3
theorem secsR_iff (c : Int) (l : List S89) : secsR c l = true ↔ ∀ i, i < l.length → secOk c l i = true := by simp [secsR]
theorem secOk_iff {c : Int} {l : List S89} {i : Nat} (hi : i < l.length) : secOk c l i = true ↔ mayT c l[i] = true ∧ ∀ a ∈ l.take i, fitsT a l[i] = true := by
  simp [secOk, List.getD_eq_getElem?_getD, List.getElem?_eq_getElem hi]
theorem ownT_iff (t : S44) : ownT t = true ↔ 1 ≤ t.f0 ∧ t.f0 ≤ t.f1 ∧ t.f1 ≤ t.f2 ∧ t.f2 ≤ 200 ∧ t.f3.length ≤ 4 := by simp [ownT]
theorem mayT_iff (c : Int) (s : S89) : mayT c s = true ↔ 0 ≤ s.f0 ∧ s.f0 < 4 ∧ 0 ≤ s.f1 ∧ s.f1 < c ∧ 1 ≤ s.f2 ∧ s.f2 ≤ c - s.f1 := by simp [mayT]
theorem task_Right.calls (t : S44) (A : Option Addr) (c : Nat) (w : World) (h : Kd.C k89 w A t.f3.length t.f3) (hlc : t.f3.length ≤ c) : Ret 84 #[vT t A c] w (.bool (taskR t)) := by
  have hu := Tryz.underlying44
  have hu2 := Tryz.underlying89
  have H := Aside0.mk h
  clear h
  unfold taskR
  cases ho : ownT t with
  | false =>
    go_enter Tryz.func84, Tryz.ntmps84
    go_wp2_with fail
    go_step3
    go_wp2_with fail
    refine (task_own.calls t A c _).mono ?_; rintro e w2 ⟨rfl, hb⟩
    rw [ho]
    go_wp2
    rw [Exit.noGoto_ret]
    go_ret
    exact ⟨rfl, below_step bl1 hb⟩
  | true =>
    have HO := Aside0.mk ((ownT_iff t).1 ho)
    go_enter Tryz.func84, Tryz.ntmps84
    go_wp2_with fail
    go_step3
    go_wp2_with fail
    refine (task_own.calls t A c _).mono ?_; rintro e w2 ⟨rfl, hb⟩
    rw [ho]
    have hB := blk_below (blk_new w _) hb
    have hbA := below_step bl1 hb
    clear hb
    generalize hg : w.heap.size = g at hB ⊢
    have hgw : w.heap.size ≤ g := by omega
    clear hg
    have hl4 := HO.out.2.2.2.2
    obtain ⟨x0, x1, x2, x3⟩ := bx4 hB
    go_wp2
    go_step3
    go_wp2
    go_loopg [13] t.f3.length (fun k v13 wr => ∃ i : Nat, i + k = t.f3.length ∧ v13 = .int .i64 i ∧ Aside0 (∀ j, j < i → secOk t.f0 t.f3 j = true) ∧ wr.heap[g]? = some (.cells #[.int .i64 t.f0, .int .i64 t.f1, .int .i64 t.f2, .slice A t.f3.length c] 44 (0, 0)) ∧ Below w.heap.size w wr)
    case atStart => exact ⟨0, by omega, rfl, ⟨fun j hj => by omega⟩, hB, hbA⟩
    case round =>
      clear x0 x1 x2 x3 hB hbA
      obtain ⟨i, hi, rfl, hok, hB, hb⟩ := hrel
      obtain ⟨x0, x1, x2, x3⟩ := bx4 hB
      obtain ⟨y0, y1, y2, y3⟩ := bx4a hB
      by_cases ci : i < t.f3.length
      · obtain ⟨ad, s, rfl, hs, h0, h1, h2⟩ := el89 (Kd.C_below H.out hb) i ci
        have hoo := HO.out
        go_wp2_with fail
        refine (task_may.calls t (some ad) c s _ (by omega) (by omega)).mono ?_; rintro e w3 ⟨rfl, hb3⟩
        have hB3 := blk_below (blk_al hB _) hb3
        have hS := blk_below (blk_new wr _) hb3
        have hb' := below_step (below_alloc hb _) hb3
        generalize wr.heap.size = g2 at hS ⊢
        clear x0 x1 x2 x3 y0 y1 y2 y3 h0 h1 h2 hoo hB hb hb3
        obtain ⟨x0, x1, x2, x3⟩ := bx4 hB3
        cases hm : mayT t.f0 s with
        | false =>
          have hv : (true && secsR t.f0 t.f3) = false := by
            rw [Bool.true_and, Bool.eq_false_iff, Ne, secsR_iff]
            intro q; have := ((secOk_iff ci).1 (q i ci)).1; rw [hs.out, hm] at this; cases this
          have HV := Aside0.mk hv
          clear hv hm
          go_wp2
          rw [Exit.noGoto_ret]
          go_ret
          exact ⟨by rw [HV.out]; rfl, hb'⟩
        | true =>
          have HM := Aside0.mk ((mayT_iff _ _).1 hm)
          clear hm
          have hic : i ≤ c := by omega
          go_wp2
          go_loopg [27] i (fun k v27 wi => ∃ j : Nat, j + k = i ∧ v27 = .int .i64 j ∧ Aside0 (∀ a ∈ t.f3.take j, fitsT a s = true) ∧ wi.heap[g]? = some (.cells #[.int .i64 t.f0, .int .i64 t.f1, .int .i64 t.f2, .slice (some ad) t.f3.length c] 44 (0, 0)) ∧
            wi.heap[g2]? = some (.cells #[.int .i64 s.f0, .int .i64 s.f1, .int .i64 s.f2] 89 (0, 0)) ∧ Below w.heap.size w wi)
          case atStart => exact ⟨0, by omega, rfl, ⟨by simp⟩, hB3, hS, hb'⟩
          case round =>
            clear x0 x1 x2 x3 hB3 hS hb'
            obtain ⟨j, hj, rfl, hof, hB, hS, hb⟩ := hrel
            by_cases cj : j < i
            · obtain ⟨ad2, a, hA2, ha, h0, h1, h2⟩ := el89 (Kd.C_below H.out hb) j (by omega)
              obtain rfl := Option.some.inj hA2
              clear hA2
              obtain ⟨s0, s1, s2⟩ := bx3 hS
              obtain ⟨z0, z1, z2⟩ := bx3a hS
              have qa : mayT t.f0 a = true := by rw [← ha.out]; exact ((secOk_iff (by omega)).1 (hok.out j cj)).1
              rw [mayT_iff] at qa
              have QA := Aside0.mk qa
              clear qa
              go_wp2_with fail
              have qa := QA.out
              have qs := HM.out
              have hoo := HO.out
              refine (task_fits.calls a s _ (by omega) (by omega) (by omega) (by omega) (by omega) (by omega) (by omega) (by omega)).mono ?_; rintro e w4 ⟨rfl, hb4⟩
              have hB4 := blk_below (blk_al hB _) hb4
              have hS4 := blk_below (blk_al hS _) hb4
              have hb' := below_step (below_alloc hb _) hb4
              clear s0 s1 s2 z0 z1 z2 h0 h1 h2 hoo qa qs hB hS hb hb4
              cases hf : fitsT a s with
              | true =>
                go_wp2
                go_roundg (i - j - 1)
                case measure => omega
                case rel => exact ⟨j + 1, by omega, by go_num, ⟨by rw [List.take_succ_eq_append_getElem (by omega)]; intro b hb_; rcases List.mem_append.1 hb_ with q | q; exact hof.out b q; rw [List.mem_singleton] at q; rw [q, ha.out]; exact hf⟩, hB4, hS4, hb'⟩
              | false =>
                have hv : (true && secsR t.f0 t.f3) = false := by
                  rw [Bool.true_and, Bool.eq_false_iff, Ne, secsR_iff]
                  intro q
                  have := ((secOk_iff ci).1 (q i ci)).2 a (by rw [← ha.out]; exact List.mem_take_iff_getElem.2 ⟨j, by omega, rfl⟩)
                  rw [hs.out, hf] at this; cases this
                have HV := Aside0.mk hv
                obtain ⟨x0, x1, x2, x3⟩ := bx4 hB4
                have f0 := blk_frozen hB4 0
                clear hv hf
                go_wp2
                rw [Exit.noGoto_ret]
                go_ret
                exact ⟨by rw [HV.out]; rfl, below_set hb' hgw⟩
            · have : j = i := by omega
              subst this
              go_wp2
              go_roundg (t.f3.length - j - 1)
              case measure => omega
              case rel => exact ⟨j + 1, by omega, by go_num, ⟨fun q hq => by rcases Nat.lt_succ_iff_lt_or_eq.1 hq with q1 | rfl; exact hok.out q q1; exact (secOk_iff ci).2 ⟨by rw [hs.out]; exact (mayT_iff _ _).2 HM.out, by rw [hs.out]; exact hof.out⟩⟩, hB, hb⟩
      · have : i = t.f3.length := by omega
        subst this
        have hv : (true && secsR t.f0 t.f3) = true := by rw [Bool.true_and, secsR_iff]; exact hok.out
        have HV := Aside0.mk hv
        clear hv
        go_wp2
        rw [Exit.noGoto_ret]
        go_ret
        exact ⟨by rw [HV.out]; have hoo := HO.out; exact rb (by simp; omega), hb⟩
theorem all_take {α : Type} (p : α → Bool) (l : List α) (i : Nat) (h : i < l.length) (h1 : (l.take i).all p = true) : (l.take (i + 1)).all p = p l[i] := by
  rw [List.take_succ_eq_append_getElem h, List.all_append, h1]; simp
theorem all_no {α : Type} (p : α → Bool) (l : List α) (i : Nat) (h : i < l.length) (h1 : p l[i] = false) : l.all p = false := by
  rw [List.all_eq_false]; exact ⟨_, List.getElem_mem h, by simp [h1]⟩
def taskA (l : List S44) : Bool := l.all taskR && decide (l.length ≤ 8)
theorem task_All.calls (A : Option Addr) (c : Nat) (l : List S44) (w : World) (h : Kd.C k44 w A l.length l) : Ret 46 #[.slice A l.length c] w (.bool (taskA l)) := by
  have hu := Tryz.underlying44
  have H := Aside0.mk h
  have hl := h.2.1
  clear h
  go_enter Tryz.func46, Tryz.ntmps46
  go_wp2
  go_loopg [7] l.length (fun k v7 wr => ∃ i : Nat, i + k = l.length ∧ v7 = .int .i64 i ∧ Aside0 ((l.take i).all taskR = true) ∧ Below w.heap.size w wr)
  case atStart => exact ⟨0, by omega, rfl, ⟨rfl⟩, bl0⟩
  case round =>
    obtain ⟨i, hi, rfl, ha, hb⟩ := hrel
    by_cases ci : i < l.length
    · obtain ⟨ad, A3, c3, t, rfl, ht, h0, h1, h2, h3, hlc, hC⟩ := el44 (Kd.C_below H.out hb) i ci
      have HC := Aside0.mk hC
      clear hC
      go_wp2_with fail
      refine (task_Right.calls t A3 c3 _ (C_alloc HC.out _) hlc).mono ?_; rintro e w2 ⟨rfl, hb2⟩
      have hb' := below_step (below_alloc hb _) hb2
      clear h0 h1 h2 h3 hb hb2 hlc
      cases hr : taskR t with
      | false =>
        have hv := Aside0.mk (show taskA l = false by unfold taskA; rw [all_no _ l i ci (by rw [ht.out]; exact hr)]; rfl)
        clear hr
        go_wp2
        go_ret
        exact ⟨by rw [hv.out]; rfl, hb'⟩
      | true =>
        have hv := Aside0.mk (show (l.take (i + 1)).all taskR = true by rw [all_take _ l i ci ha.out, ht.out]; exact hr)
        clear hr
        go_wp2
        go_roundg (l.length - i - 1)
        case measure => omega
        case rel => exact ⟨i + 1, by omega, by go_num, hv, hb'⟩
    · have : i = l.length := by omega
      subst this
      have hv := Aside0.mk (show taskA l = decide (l.length ≤ 8) by have := ha.out; rw [List.take_length] at this; unfold taskA; rw [this]; rfl)
      go_wp2
      go_ret
      exact ⟨by rw [hv.out]; exact rb (by simp; omega), hb⟩
def usesT (t : S44) (r : Int) : Bool := taskR t && t.f3.any (fun s => decide (s.f0 = r))
theorem task_Uses.calls (t : S44) (A : Option Addr) (c : Nat) (r : Int) (w : World) (h : Kd.C k89 w A t.f3.length t.f3) (hlc : t.f3.length ≤ c) : Ret 147 #[vT t A c, .int .i64 r] w (.bool (usesT t r)) := by
  have hu := Tryz.underlying44
  have hu2 := Tryz.underlying89
  have H := Aside0.mk h
  have hl := h.2.1
  clear h
  unfold usesT
  cases ho : taskR t with
  | false =>
    go_enter Tryz.func147, Tryz.ntmps147
    go_wp2_with fail
    refine (task_Right.calls t A c _ (C_alloc H.out _) hlc).mono ?_; rintro e w2 ⟨rfl, hb⟩
    rw [ho]
    go_wp2
    go_ret
    exact ⟨rfl, below_step bl1 hb⟩
  | true =>
    go_enter Tryz.func147, Tryz.ntmps147
    go_wp2_with fail
    refine (task_Right.calls t A c _ (C_alloc H.out _) hlc).mono ?_; rintro e w2 ⟨rfl, hb⟩
    rw [ho]
    clear ho
    have hB := blk_below (blk_new w _) hb
    have hbA := below_step bl1 hb
    clear hb
    obtain ⟨x0, x1, x2, x3⟩ := bx4 hB
    go_wp2
    clear x0 x1 x2 x3 hB
    go_loopg [13] t.f3.length (fun k v13 wr => ∃ i : Nat, i + k = t.f3.length ∧ v13 = .int .i64 i ∧ Aside0 ((t.f3.take i).any (fun s => decide (s.f0 = r)) = false) ∧ Below w.heap.size w wr)
    case atStart => exact ⟨0, by omega, rfl, ⟨rfl⟩, hbA⟩
    case round =>
      clear hbA
      obtain ⟨i, hi, rfl, ha, hb⟩ := hrel
      by_cases ci : i < t.f3.length
      · obtain ⟨ad, s, rfl, hs, h0, h1, h2⟩ := el89 (Kd.C_below H.out hb) i ci
        by_cases cr : s.f0 = r
        · have hv := Aside0.mk (show t.f3.any (fun s => decide (s.f0 = r)) = true from List.any_eq_true.2 ⟨_, List.getElem_mem ci, by rw [hs.out]; exact decide_eq_true cr⟩)
          have c1 : (s.f0 == r) = true := by simpa using cr
          clear cr
          go_wp2
          go_ret
          exact ⟨by rw [hv.out]; rfl, below_alloc hb _⟩
        · have hv := Aside0.mk (show (t.f3.take (i + 1)).any (fun s => decide (s.f0 = r)) = false by rw [List.take_succ_eq_append_getElem ci, List.any_append, ha.out, hs.out]; simp [cr])
          have c1 : (s.f0 == r) = false := by simpa using cr
          clear cr
          go_wp2
          go_roundg (t.f3.length - i - 1)
          case measure => omega
          case rel => exact ⟨i + 1, by omega, by go_num, hv, below_alloc hb _⟩
      · have : i = t.f3.length := by omega
        subst this
        have hv := Aside0.mk (show t.f3.any (fun s => decide (s.f0 = r)) = false by have := ha.out; rwa [List.take_length] at this)
        go_wp2
        go_ret
        exact ⟨by rw [hv.out]; rfl, hb⟩
def lastOk (n : Int) : Bool := decide (-1 ≤ n ∧ n ≤ 4611686018427387903)
def polR (l : List S44) (ls : List Int) : Bool := taskA l && decide (ls.length = l.length) && ls.all lastOk
theorem police_Right.calls (A : Option Addr) (c : Nat) (l : List S44) (B : Option Addr) (d : Nat) (ls : List Int) (w : World) (h : Kd.C k44 w A l.length l) (h2 : Kd.C (Kd.int .i64) w B ls.length ls) :
    Ret 94 #[.slice A l.length c, .slice B ls.length d] w (.bool (polR l ls)) := by
  have H := Aside0.mk h
  have H2 := Aside0.mk h2
  have hl := h.2.1
  have hl2 := h2.2.1
  clear h h2
  unfold polR
  cases ho : taskA l with
  | false =>
    go_enter Tryz.func94, Tryz.ntmps94
    go_wp2_with fail
    refine (task_All.calls A c l _ H.out).mono ?_; rintro e w2 ⟨rfl, hb⟩
    rw [ho]
    go_wp2
    go_ret
    exact ⟨rfl, hb⟩
  | true =>
    by_cases cl : ls.length = l.length
    · have hn : ((ls.length : Int) != (l.length : Int)) = false := by rw [cl]; simp
      have hn2 : (ls.length != l.length) = false := by rw [cl]; simp
      have hd := Aside0.mk (decide_eq_true cl)
      clear cl
      go_enter Tryz.func94, Tryz.ntmps94
      go_wp2_with fail
      refine (task_All.calls A c l _ H.out).mono ?_; rintro e w2 ⟨rfl, hb⟩
      rw [ho]
      clear ho
      go_wp2
      go_loopg [19] ls.length (fun k v19 wr => ∃ i : Nat, i + k = ls.length ∧ v19 = .int .i64 i ∧ Aside0 ((ls.take i).all lastOk = true) ∧ w2 = wr)
      case atStart => exact ⟨0, by omega, rfl, ⟨rfl⟩, rfl⟩
      case round =>
        obtain ⟨i, hi, rfl, ha, rfl⟩ := hrel
        by_cases ci : i < ls.length
        · obtain ⟨ad, t, rfl, ht, h0⟩ := elI (Kd.C_below H2.out hb) i ci
          have E := Aside0.mk (show (ls.take (i + 1)).all lastOk = lastOk t by rw [all_take _ ls i ci ha.out, ht.out])
          have E2 := Aside0.mk (show lastOk t = false → ls.all lastOk = false from fun q => all_no _ ls i ci (by rw [ht.out]; exact q))
          go_wp2
          all_goals first
            | (go_ret; exact ⟨by rw [hd.out, E2.out (decide_eq_false (by omega))]; rfl, hb⟩)
            | (go_roundg (ls.length - i - 1)
               case measure => omega
               case rel => exact ⟨i + 1, by omega, by go_num, ⟨by rw [E.out]; exact decide_eq_true (by omega)⟩, rfl⟩)
        · have : i = ls.length := by omega
          subst this
          have hv := Aside0.mk (show ls.all lastOk = true by have := ha.out; rwa [List.take_length] at this)
          go_wp2
          go_ret
          exact ⟨by rw [hd.out, hv.out]; rfl, hb⟩
    · have hn : ((ls.length : Int) != (l.length : Int)) = true := by simp; omega
      have hn2 : (ls.length != l.length) = true := by simp; omega
      have hd := Aside0.mk (decide_eq_false cl)
      clear cl
      go_enter Tryz.func94, Tryz.ntmps94
      go_wp2_with fail
      refine (task_All.calls A c l _ H.out).mono ?_; rintro e w2 ⟨rfl, hb⟩
      rw [ho]
      go_wp2
      go_ret
      exact ⟨by rw [hd.out]; rfl, hb⟩
def levelN (d : Int) (l : List S44) : Nat := (l.filter fun x => decide (d < x.f1)).length
theorem levelN_le (d : Int) (l : List S44) : levelN d l ≤ l.length := List.length_filter_le _ _
theorem levelN_snoc (d : Int) (l : List S44) (i : Nat) (h : i < l.length) : levelN d (l.take (i + 1)) = levelN d (l.take i) + if d < l[i].f1 then 1 else 0 := by
  unfold levelN
  rw [List.take_succ_eq_append_getElem h, List.filter_append, List.length_append]
  by_cases c : d < l[i].f1 <;> simp [c]
def levI (l : List S44) (t : S44) : Int := 1 + (levelN t.f1 l : Nat)
theorem level_level.calls (A : Option Addr) (c : Nat) (l : List S44) (t : S44) (B : Option Addr) (d : Nat) (w : World) (h : Kd.C k44 w A l.length l) (hl8 : l.length ≤ 8) : Ret 137 #[.slice A l.length c, vT t B d] w (.int .i64 (levI l t)) := by
  have hu := Tryz.underlying44
  have H := Aside0.mk h
  clear h
  go_enter Tryz.func137, Tryz.ntmps137
  go_wp2
  have hB := blk_new w (.cells #[.int .i64 t.f0, .int .i64 t.f1, .int .i64 t.f2, .slice B t.f3.length d] 44)
  have hbA := bl1 (w := w) (o := .cells #[.int .i64 t.f0, .int .i64 t.f1, .int .i64 t.f2, .slice B t.f3.length d] 44)
  generalize w.alloc _ = w1 at hB hbA ⊢
  generalize w.heap.size = g at hB ⊢
  go_loopg [5, 10] l.length (fun k v5 v10 wr => ∃ i : Nat, i + k = l.length ∧ v5 = .int .i64 (1 + (levelN t.f1 (l.take i) : Nat)) ∧ v10 = .int .i64 i ∧ wr.heap[g]? = some (.cells #[.int .i64 t.f0, .int .i64 t.f1, .int .i64 t.f2, .slice B t.f3.length d] 44 (0, 0)) ∧ Below w.heap.size w wr)
  case atStart => exact ⟨0, by omega, rfl, rfl, hB, hbA⟩
  case round =>
    clear hB hbA
    obtain ⟨i, hi, rfl, rfl, hB, hb⟩ := hrel
    have hn := levelN_le t.f1 (l.take i)
    rw [List.length_take] at hn
    have hn2 : levelN t.f1 (l.take i) ≤ 8 := by omega
    clear hn
    by_cases ci : i < l.length
    · obtain ⟨ad, A3, c3, x, rfl, hx, h0, h1, h2, h3, -, -⟩ := el44 (Kd.C_below H.out hb) i ci
      obtain ⟨-, y1, -, -⟩ := bx4a hB
      have hs := Aside0.mk (levelN_snoc t.f1 l i ci)
      rw [hx.out] at hs
      generalize levelN t.f1 (l.take i) = n at hn2 hs ⊢
      go_wp2
      · go_roundg (l.length - i - 1)
        case measure => omega
        case rel => exact ⟨i + 1, by omega, by rw [hs.out, if_pos (by omega)]; go_num, by go_num, blk_al hB _, below_alloc hb _⟩
      · go_roundg (l.length - i - 1)
        case measure => omega
        case rel => exact ⟨i + 1, by omega, by rw [hs.out, if_neg (by omega)]; go_num, by go_num, blk_al hB _, below_alloc hb _⟩
    · have : i = l.length := by omega
      subst this
      rw [List.take_length] at *
      go_wp2
      go_ret
      exact ⟨rfl, hb⟩
def ofI (l : List S44) (i : Nat) : Int := levI l (l.getD i z44)
theorem level_Of.calls (A : Option Addr) (c : Nat) (l : List S44) (i : Nat) (hi : i < l.length) (ha : taskA l = true) (w : World) (h : Kd.C k44 w A l.length l) : Ret 131 #[.slice A l.length c, .int .i64 i] w (.int .i64 (ofI l i)) := by
  have hu := Tryz.underlying44
  have H := Aside0.mk h
  have hl8 : l.length ≤ 8 := by unfold taskA at ha; simp at ha; exact ha.2
  clear h
  go_enter Tryz.func131, Tryz.ntmps131
  go_wp2_with fail
  refine (task_All.calls A c l _ H.out).mono ?_; rintro e w2 ⟨rfl, hb⟩
  rw [ha]
  obtain ⟨ad, A3, c3, x, rfl, hx, h0, h1, h2, h3, -, -⟩ := el44 (Kd.C_below H.out hb) i hi
  have E := Aside0.mk (show ofI l i = levI l x by unfold ofI; rw [List.getD_eq_getElem?_getD, List.getElem?_eq_getElem hi, Option.getD_some, hx.out])
  clear ha
  go_wp2_with fail
  refine (level_level.calls (some ad) c l x A3 c3 _ (Kd.C_below H.out hb) hl8).mono ?_; rintro e w3 ⟨rfl, hb3⟩
  rw [← E.out]
  go_wp2
  go_ret
  exact ⟨rfl, below_step hb hb3⟩
def ceil1 (l : List S44) (r : Int) (t : S44) : Int := if usesT t r then levI l t else 0
theorem ceil1.calls (A : Option Addr) (c : Nat) (l : List S44) (r : Int) (t : S44) (B : Option Addr) (d : Nat) (gr gl : Nat) (w : World) (h : Kd.C k44 w A l.length l) (hl8 : l.length ≤ 8) (h2 : Kd.C k89 w B t.f3.length t.f3) (hlc : t.f3.length ≤ d)
    (hr : w.heap[gr]? = some (.cells #[.int .i64 r] 3 (0, 0))) (hg : w.heap[gl]? = some (.cells #[.slice A l.length c] 76 (0, 0))) : Ret 146 #[vT t B d, .pointer (some ⟨gr, 0, none⟩), .pointer (some ⟨gl, 0, none⟩)] w (.int .i64 (ceil1 l r t)) := by
  have hu := Tryz.underlying44
  have H := Aside0.mk h
  have H2 := Aside0.mk h2
  have hr1 := bx1 hr
  have hr2 := bx1a hr
  clear h h2
  go_enter Tryz.func146, Tryz.ntmps146
  go_wp2_with fail
  refine (task_Uses.calls t B d r _ (C_alloc H2.out _) hlc).mono ?_; rintro e w2 ⟨rfl, hb⟩
  have hB := blk_below (blk_new w _) hb
  have hg2 := bx1 (blk_below (blk_al hg _) hb)
  obtain ⟨x0, x1, x2, x3⟩ := bx4 hB
  cases hq : usesT t r with
  | false =>
    have hv := Aside0.mk (show ceil1 l r t = 0 by unfold ceil1; rw [hq]; rfl)
    clear hq
    go_wp2
    go_ret
    exact ⟨by rw [hv.out]; rfl, below_step bl1 hb⟩
  | true =>
    have hv := Aside0.mk (show ceil1 l r t = levI l t by unfold ceil1; rw [hq]; rfl)
    clear hq
    go_wp2_with fail
    refine (level_level.calls A c l t B d _ (Kd.C_below (C_alloc H.out _) hb) hl8).mono ?_; rintro e w3 ⟨rfl, hb3⟩
    go_wp2
    go_ret
    exact ⟨by rw [hv.out]; rfl, below_step (below_step bl1 hb) hb3⟩
def mostI {α : Type} (f : α → Int) (l : List α) : Int := l.foldl (fun m x => mx m (f x)) 0
theorem mostI_snoc {α : Type} (f : α → Int) (l : List α) (i : Nat) (h : i < l.length) : mostI f (l.take (i + 1)) = mx (mostI f (l.take i)) (f l[i]) := by
  unfold mostI; rw [List.take_succ_eq_append_getElem h, List.foldl_append]; rfl
def ceilI (l : List S44) (r : Int) : Int := mostI (ceil1 l r) l
theorem most1.calls (A : Option Addr) (c : Nat) (l : List S44) (r : Int) (gr gl : Nat) (w : World) (h : Kd.C k44 w A l.length l) (hl8 : l.length ≤ 8)
    (hr : w.heap[gr]? = some (.cells #[.int .i64 r] 3 (0, 0))) (hg : w.heap[gl]? = some (.cells #[.slice A l.length c] 76 (0, 0))) :
    Ret 145 #[.slice A l.length c, .func (Fn.func 146) #[] #[.pointer (some ⟨gr, 0, none⟩), .pointer (some ⟨gl, 0, none⟩)]] w (.int .i64 (ceilI l r)) := by
  have hu := Tryz.underlying44
  have H := Aside0.mk h
  have HR := Aside0.mk hr
  have HG := Aside0.mk hg
  clear h hr hg
  go_enter Tryz.func145, Tryz.ntmps145
  go_wp2
  go_loopg [5, 10] l.length (fun k v5 v10 wr => ∃ i : Nat, i + k = l.length ∧ v5 = .int .i64 (mostI (ceil1 l r) (l.take i)) ∧ v10 = .int .i64 i ∧ Below w.heap.size w wr)
  case atStart => exact ⟨0, by omega, rfl, rfl, bl0⟩
  case round =>
    obtain ⟨i, hi, rfl, rfl, hb⟩ := hrel
    by_cases ci : i < l.length
    · obtain ⟨ad, A3, c3, x, rfl, hx, h0, h1, h2, h3, hlc, hC⟩ := el44 (Kd.C_below H.out hb) i ci
      have hs := Aside0.mk (mostI_snoc (ceil1 l r) l i ci)
      rw [hx.out] at hs
      have HC := Aside0.mk hC
      clear hC
      generalize mostI (ceil1 l r) (l.take i) = n at hs ⊢
      go_wp2_with fail
      refine (ceil1.calls (some ad) c l r x A3 c3 gr gl _ (Kd.C_below H.out (below_alloc hb _)) hl8 (C_alloc HC.out _) hlc (blk_al (blk_below HR.out hb) _) (blk_al (blk_below HG.out hb) _)).mono ?_; rintro e w2 ⟨rfl, hb2⟩
      have hb' := below_step (below_alloc hb _) hb2
      generalize ceil1 l r x = v at hs ⊢
      clear h0 h1 h2 h3 hlc hb hb2
      go_wp2
      all_goals
        go_roundg (l.length - i - 1)
        case measure => omega
        case rel => exact ⟨i + 1, by omega, by rw [hs.out]; unfold mx; first | rw [if_pos (by omega)] | rw [if_neg (by omega)], by go_num, hb'⟩
    · have : i = l.length := by omega
      subst this
      rw [List.take_length] at *
      go_wp2
      go_ret
      exact ⟨rfl, hb⟩
theorem level_Ceiling.calls (A : Option Addr) (c : Nat) (l : List S44) (r : Int) (w : World) (h : Kd.C k44 w A l.length l) (ha : taskA l = true) : Ret 140 #[.slice A l.length c, .int .i64 r] w (.int .i64 (ceilI l r)) := by
  have H := Aside0.mk h
  have hl8 : l.length ≤ 8 := by unfold taskA at ha; simp at ha; exact ha.2
  clear h
  go_enter Tryz.func140, Tryz.ntmps140
  go_wp2_with fail
  refine (task_All.calls A c l _ (C_alloc (C_alloc H.out _) _)).mono ?_; rintro e w2 ⟨rfl, hb⟩
  rw [ha]
  clear ha
  have hBl := blk_below (blk_al (blk_new w (.cells #[.slice A l.length c] 76)) _) hb
  have hBr := blk_below (blk_new (w.alloc (.cells #[.slice A l.length c] 76)) _) hb
  rw [World.size_alloc] at hBr
  have hx1 := bx1 hBl
  have hx2 := bx1 hBr
  have hb' := below_step bl2 hb
  go_wp2_with fail
  refine (most1.calls A c l r _ _ _ (Kd.C_below H.out hb') hl8 hBr hBl).mono ?_; rintro e w3 ⟨rfl, hb3⟩
  go_wp2
  go_ret
  exact ⟨rfl, below_step hb' hb3⟩
theorem held1.calls (A : Option Addr) (c : Nat) (l : List S44) (r : Int) (gl : Nat) (w : World) (h : Kd.C k44 w A l.length l) (ha : taskA l = true) (hg : w.heap[gl]? = some (.cells #[.slice A l.length c] 76 (0, 0))) :
    Ret 139 #[.int .i64 r, .pointer (some ⟨gl, 0, none⟩)] w (.int .i64 (ceilI l r)) := by
  have hg1 := bx1 hg
  go_enter Tryz.func139, Tryz.ntmps139
  go_wp2_with fail
  refine (level_Ceiling.calls A c l r _ h ha).mono ?_; rintro e w2 ⟨rfl, hb⟩
  go_wp2
  go_ret
  exact ⟨rfl, hb⟩
def heldI (l : List S44) (hs : List Int) : Int := mostI (ceilI l) hs
theorem most2.calls (A : Option Addr) (c : Nat) (l : List S44) (B : Option Addr) (d : Nat) (hs : List Int) (gl : Nat) (w : World) (h : Kd.C k44 w A l.length l) (h2 : Kd.C (Kd.int .i64) w B hs.length hs) (ha : taskA l = true)
    (hg : w.heap[gl]? = some (.cells #[.slice A l.length c] 76 (0, 0))) : Ret 138 #[.slice B hs.length d, .func (Fn.func 139) #[] #[.pointer (some ⟨gl, 0, none⟩)]] w (.int .i64 (heldI l hs)) := by
  have H := Aside0.mk h
  have H2 := Aside0.mk h2
  have HA := Aside0.mk ha
  have HG := Aside0.mk hg
  have hl := h2.2.1
  clear h h2 ha hg
  go_enter Tryz.func138, Tryz.ntmps138
  go_wp2
  go_loopg [5, 10] hs.length (fun k v5 v10 wr => ∃ i : Nat, i + k = hs.length ∧ v5 = .int .i64 (mostI (ceilI l) (hs.take i)) ∧ v10 = .int .i64 i ∧ Below w.heap.size w wr)
  case atStart => exact ⟨0, by omega, rfl, rfl, bl0⟩
  case round =>
    obtain ⟨i, hi, rfl, rfl, hb⟩ := hrel
    by_cases ci : i < hs.length
    · obtain ⟨ad, x, rfl, hx, h0⟩ := elI (Kd.C_below H2.out hb) i ci
      have hss := Aside0.mk (mostI_snoc (ceilI l) hs i ci)
      rw [hx.out] at hss
      generalize mostI (ceilI l) (hs.take i) = n at hss ⊢
      go_wp2_with fail
      refine (held1.calls A c l x gl _ (Kd.C_below H.out hb) HA.out (blk_below HG.out hb)).mono ?_; rintro e w2 ⟨rfl, hb2⟩
      have hb' := below_step hb hb2
      generalize ceilI l x = v at hss ⊢
      clear h0 hb hb2
      go_wp2
      all_goals
        go_roundg (hs.length - i - 1)
        case measure => omega
        case rel => exact ⟨i + 1, by omega, by rw [hss.out]; unfold mx; first | rw [if_pos (by omega)] | rw [if_neg (by omega)], by go_num, hb'⟩
    · have : i = hs.length := by omega
      subst this
      rw [List.take_length] at *
      go_wp2
      go_ret
      exact ⟨rfl, hb⟩
theorem level_Held.calls (A : Option Addr) (c : Nat) (l : List S44) (B : Option Addr) (d : Nat) (hs : List Int) (w : World) (h : Kd.C k44 w A l.length l) (h2 : Kd.C (Kd.int .i64) w B hs.length hs) (ha : taskA l = true) :
    Ret 132 #[.slice A l.length c, .slice B hs.length d] w (.int .i64 (heldI l hs)) := by
  have H := Aside0.mk h
  have H2 := Aside0.mk h2
  have HA := Aside0.mk ha
  clear h h2 ha
  go_enter Tryz.func132, Tryz.ntmps132
  go_wp2_with fail
  refine (most2.calls A c l B d hs _ _ (C_alloc H.out _) (C_alloc H2.out _) HA.out (blk_new w _)).mono ?_; rintro e w2 ⟨rfl, hb⟩
  go_wp2
  go_ret
  exact ⟨rfl, below_step bl1 hb⟩
def passB (l : List S44) (i : Nat) (hs : List Int) : Bool := decide (heldI l hs < ofI l i)
theorem level_Passes.calls (A : Option Addr) (c : Nat) (l : List S44) (i : Nat) (hi : i < l.length) (B : Option Addr) (d : Nat) (hs : List Int) (w : World) (h : Kd.C k44 w A l.length l) (h2 : Kd.C (Kd.int .i64) w B hs.length hs) (ha : taskA l = true) :
    Ret 125 #[.slice A l.length c, .int .i64 i, .slice B hs.length d] w (.bool (passB l i hs)) := by
  have H := Aside0.mk h
  have H2 := Aside0.mk h2
  have HA := Aside0.mk ha
  clear h h2 ha
  unfold passB
  go_enter Tryz.func125, Tryz.ntmps125
  go_wp2_with fail
  refine (level_Of.calls A c l i hi HA.out _ H.out).mono ?_; rintro e w2 ⟨rfl, hb⟩
  go_wp2_with fail
  refine (level_Held.calls A c l B d hs _ (Kd.C_below H.out hb) (Kd.C_below H2.out hb) HA.out).mono ?_; rintro e w3 ⟨rfl, hb3⟩
  go_wp2
  go_ret
  exact ⟨rfl, below_step hb hb3⟩
def jobAhead (a b : S182) : Bool := if a.f2 ≠ b.f2 then decide (a.f2 < b.f2) else if a.f0 ≠ b.f0 then decide (a.f0 < b.f0) else decide (a.f1 < b.f1)
abbrev vJ (a : S182) : Value := .agg #[.int .i64 a.f0, .int .i64 a.f1, .int .i64 a.f2, .int .i64 a.f3, .int .i64 a.f4, .bool a.f5]
theorem job_Ahead.calls (a b : S182) (w : World) : Ret 120 #[vJ a, vJ b] w (.bool (jobAhead a b)) := by
  have hu := Tryz.underlying182
  go_enter Tryz.func120, Tryz.ntmps120
  go_wp2 <;> go_ret <;> exact ⟨rb (by simp_all [jobAhead]), bl2⟩
def jobT (t : S44) (j : S182) : Bool := decide (j.f2 = j.f1 + t.f1 ∧ 1 ≤ j.f3 ∧ j.f3 ≤ 200 ∧ 0 ≤ j.f4 ∧ j.f4 < t.f0 ∧ j.f4 < j.f3 ∧ (j.f5 = true ∨ j.f4 = 0))
def jobR (l : List S44) (j : S182) : Bool := decide (0 ≤ j.f0 ∧ j.f0 < l.length ∧ 0 ≤ j.f1 ∧ j.f1 ≤ 4611686018427387703) && jobT (l.getD j.f0.toNat z44) j
theorem job_right.calls (A : Option Addr) (c : Nat) (l : List S44) (j : S182) (w : World) (h : Kd.C k44 w A l.length l) (ha : taskA l = true) : Ret 116 #[.slice A l.length c, vJ j] w (.bool (jobR l j)) := by
  have hu := Tryz.underlying182
  have hu2 := Tryz.underlying44
  have H := Aside0.mk h
  have hall : l.all taskR = true ∧ l.length ≤ 8 := by unfold taskA at ha; simpa using ha
  have HA := Aside0.mk hall
  clear h ha hall
  by_cases c1 : 0 ≤ j.f0 ∧ j.f0 < l.length ∧ 0 ≤ j.f1 ∧ j.f1 ≤ 4611686018427387703
  · obtain ⟨a1, a2, a3, a4⟩ := c1
    obtain ⟨i, hi⟩ : ∃ i : Nat, j.f0 = i := ⟨j.f0.toNat, by omega⟩
    have hil : i < l.length := by omega
    obtain ⟨ad, A3, c3, t, rfl, ht, h0, h1, h2, h3, -, -⟩ := el44 H.out i hil
    have E := Aside0.mk (show jobR l j = jobT t j by unfold jobR; rw [decide_eq_true ⟨a1, a2, a3, a4⟩, hi, Int.toNat_natCast, List.getD_eq_getElem?_getD, List.getElem?_eq_getElem hil, Option.getD_some, ht.out]; rfl)
    have ho : ownT t = true := by
      have := List.all_eq_true.1 HA.out.1 t (by rw [← ht.out]; exact List.getElem_mem hil)
      unfold taskR at this; rw [Bool.and_eq_true] at this; exact this.1
    rw [ownT_iff] at ho
    obtain ⟨o1, o2, o3, o4, -⟩ := ho
    generalize jobR l j = r at E ⊢
    obtain ⟨j0, j1, j2, j3, j4, j5⟩ := j
    dsimp only at hi a1 a2 a3 a4 E ⊢
    subst hi
    have y0 := al_cell h0; have y1 := al_cell h1; have y2 := al_cell h2; have y3 := al_cell h3
    clear h0 h1 h2 h3
    go_enter Tryz.func116, Tryz.ntmps116
    go_wp2
    all_goals go_ret
    all_goals exact ⟨by rw [E.out]; exact rb (by first | (simp [jobT]; omega) | (simp_all [jobT] <;> omega)), by first | exact bl1 | exact bl2⟩
  · have E := Aside0.mk (show jobR l j = false by unfold jobR; rw [decide_eq_false c1]; rfl)
    obtain ⟨j0, j1, j2, j3, j4, j5⟩ := j
    dsimp only at c1 E ⊢
    by_cases d1 : 0 ≤ j0
    · by_cases d2 : j0 < l.length
      · by_cases d3 : 0 ≤ j1
        · have d4 : 4611686018427387703 < j1 := by omega
          clear c1
          go_enter Tryz.func116, Tryz.ntmps116
          go_wp2
          go_ret
          exact ⟨by rw [E.out]; rfl, bl1⟩
        · clear c1
          go_enter Tryz.func116, Tryz.ntmps116
          go_wp2
          go_ret
          exact ⟨by rw [E.out]; rfl, bl1⟩
      · clear c1
        go_enter Tryz.func116, Tryz.ntmps116
        go_wp2
        go_ret
        exact ⟨by rw [E.out]; rfl, bl1⟩
    · clear c1
      go_enter Tryz.func116, Tryz.ntmps116
      go_wp2
      go_ret
      exact ⟨by rw [E.out]; rfl, bl1⟩
def newJ (js : List S182) (a : S182) : Bool := js.all fun b => !(decide (a.f0 = b.f0) && decide (a.f1 = b.f1))
def jobOk (l : List S44) (js : List S182) (i : Nat) : Bool := jobR l (js.getD i z182) && newJ (js.take i) (js.getD i z182)
def jobA (l : List S44) (js : List S182) : Bool := taskA l && decide (js.length ≤ 32) && (List.range js.length).all (jobOk l js)
theorem jobOk_iff {l : List S44} {js : List S182} {i : Nat} (hi : i < js.length) : jobOk l js i = (jobR l js[i] && newJ (js.take i) js[i]) := by
  simp [jobOk, List.getD_eq_getElem?_getD, List.getElem?_eq_getElem hi]
theorem jobA_no {l : List S44} {js : List S182} {i : Nat} (hi : i < js.length) (h : jobOk l js i = false) : jobA l js = false := by
  have : (List.range js.length).all (jobOk l js) = false := by rw [List.all_eq_false]; exact ⟨i, List.mem_range.2 hi, by simp [h]⟩
  unfold jobA; rw [this, Bool.and_false]
theorem job_All.calls (A : Option Addr) (c : Nat) (l : List S44) (B : Option Addr) (d : Nat) (js : List S182) (w : World) (h : Kd.C k44 w A l.length l) (h2 : Kd.C k182 w B js.length js) (hjd : js.length ≤ d) :
    Ret 95 #[.slice A l.length c, .slice B js.length d] w (.bool (jobA l js)) := by
  have hu := Tryz.underlying182
  have H := Aside0.mk h
  have H2 := Aside0.mk h2
  have hl2 := h2.2.1
  clear h h2
  cases ho : taskA l with
  | false =>
    have hv := Aside0.mk (show jobA l js = false by unfold jobA; rw [ho]; rfl)
    go_enter Tryz.func95, Tryz.ntmps95
    go_wp2_with fail
    refine (task_All.calls A c l _ H.out).mono ?_; rintro e w2 ⟨rfl, hb⟩
    rw [ho]
    go_wp2
    go_ret
    exact ⟨by rw [hv.out]; rfl, hb⟩
  | true =>
    by_cases cl : js.length ≤ 32
    · have HO := Aside0.mk ho
      go_enter Tryz.func95, Tryz.ntmps95
      go_wp2_with fail
      refine (task_All.calls A c l _ H.out).mono ?_; rintro e w2 ⟨rfl, hb⟩
      rw [ho]
      clear ho
      go_wp2
      go_loopg [19] js.length (fun k v19 wr => ∃ i : Nat, i + k = js.length ∧ v19 = .int .i64 i ∧ Aside0 (∀ j, j < i → jobOk l js j = true) ∧ Below w.heap.size w wr)
      case atStart => exact ⟨0, by omega, rfl, ⟨fun j hj => by omega⟩, hb⟩
      case round =>
        clear hb
        obtain ⟨i, hi, rfl, hok, hb⟩ := hrel
        by_cases ci : i < js.length
        · obtain ⟨ad, a, rfl, hs, h0, h1, h2, h3, h4, h5⟩ := el182 (Kd.C_below H2.out hb) i ci
          have hB := blk_new wr (.cells #[.int .i64 a.f0, .int .i64 a.f1, .int .i64 a.f2, .int .i64 a.f3, .int .i64 a.f4, .bool a.f5] 182)
          go_wp2_with fail
          refine (job_right.calls A c l a _ (Kd.C_below H.out (below_alloc hb _)) HO.out).mono ?_; rintro e w3 ⟨rfl, hb3⟩
          have hB := blk_below hB hb3
          have hb' := below_step (below_alloc hb _) hb3
          clear h0 h1 h2 h3 h4 h5 hb hb3
          generalize wr.heap.size = g at hB ⊢
          cases hr : jobR l a with
          | false =>
            have hv := Aside0.mk (jobA_no (l := l) ci (by rw [jobOk_iff ci, hs.out, hr]; rfl))
            clear hr
            go_wp2
            go_ret
            exact ⟨by rw [hv.out]; rfl, hb'⟩
          | true =>
            have HR := Aside0.mk hr
            have hid : i ≤ d := by omega
            obtain ⟨x0, x1, x2, x3, x4, x5⟩ := bx6 hB
            clear hr
            go_wp2
            go_loopg [32] i (fun k v32 wi => ∃ j : Nat, j + k = i ∧ v32 = .int .i64 j ∧ Aside0 (newJ (js.take j) a = true) ∧ wi.heap[g]? = some (.cells #[.int .i64 a.f0, .int .i64 a.f1, .int .i64 a.f2, .int .i64 a.f3, .int .i64 a.f4, .bool a.f5] 182 (0, 0)) ∧ Below w.heap.size w wi)
            case atStart => exact ⟨0, by omega, rfl, ⟨rfl⟩, hB, hb'⟩
            case round =>
              clear x0 x1 x2 x3 x4 x5 hB hb'
              obtain ⟨j, hj, rfl, hnew, hB, hb⟩ := hrel
              by_cases cj : j < i
              · obtain ⟨ad2, b, hA2, hs2, h0, h1, h2, h3, h4, h5⟩ := el182 (Kd.C_below H2.out hb) j (by omega)
                obtain rfl := Option.some.inj hA2
                clear hA2
                obtain ⟨y0, y1, y2, y3, y4, y5⟩ := bx6a hB
                have E := Aside0.mk (show newJ (js.take (j + 1)) a = !(decide (a.f0 = b.f0) && decide (a.f1 = b.f1)) by
                  unfold newJ; rw [all_take _ js j (by omega) hnew.out, hs2.out])
                by_cases e0 : a.f0 = b.f0 ∧ a.f1 = b.f1
                · have hv := Aside0.mk (jobA_no (l := l) ci (by
                    have : newJ (js.take i) a = false := by
                      unfold newJ; rw [List.all_eq_false]
                      exact ⟨b, by rw [← hs2.out]; exact List.mem_take_iff_getElem.2 ⟨j, by omega, rfl⟩, by simp [e0.1, e0.2]⟩
                    rw [jobOk_iff ci, hs.out, this, Bool.and_false]))
                  have c0 : (a.f0 == b.f0) = true := by simpa using e0.1
                  have c1 : (a.f1 == b.f1) = true := by simpa using e0.2
                  clear e0
                  go_wp2
                  go_ret
                  exact ⟨by rw [hv.out]; rfl, below_alloc hb _⟩
                · have hv := Aside0.mk (show newJ (js.take (j + 1)) a = true by rw [E.out]; by_cases q : a.f0 = b.f0; rw [decide_eq_false (fun r => e0 ⟨q, r⟩), Bool.and_false]; rfl; rw [decide_eq_false q, Bool.false_and]; rfl)
                  by_cases q : a.f0 = b.f0
                  · have c0 : (a.f0 == b.f0) = true := by simpa using q
                    have c1 : (a.f1 == b.f1) = false := by simpa using fun r => e0 ⟨q, r⟩
                    clear e0 q
                    go_wp2
                    go_roundg (i - j - 1)
                    case measure => omega
                    case rel => exact ⟨j + 1, by omega, by go_num, hv, blk_al hB _, below_alloc hb _⟩
                  · have c0 : (a.f0 == b.f0) = false := by simpa using q
                    clear e0 q
                    go_wp2
                    go_roundg (i - j - 1)
                    case measure => omega
                    case rel => exact ⟨j + 1, by omega, by go_num, hv, blk_al hB _, below_alloc hb _⟩
              · have : j = i := by omega
                subst this
                go_wp2
                go_roundg (js.length - j - 1)
                case measure => omega
                case rel => exact ⟨j + 1, by omega, by go_num, ⟨fun q hq => by rcases Nat.lt_succ_iff_lt_or_eq.1 hq with q1 | rfl; exact hok.out q q1; rw [jobOk_iff ci, hs.out, HR.out, hnew.out]; rfl⟩, hb⟩
        · have : i = js.length := by omega
          subst this
          have hv := Aside0.mk (show jobA l js = true by unfold jobA; rw [HO.out, decide_eq_true cl]; simp only [Bool.true_and]; rw [List.all_eq_true]; exact fun q hq => hok.out q (List.mem_range.1 hq))
          go_wp2
          go_ret
          exact ⟨by rw [hv.out]; rfl, hb⟩
    · have hv := Aside0.mk (show jobA l js = false by unfold jobA; rw [decide_eq_false cl, Bool.and_false, Bool.false_and])
      go_enter Tryz.func95, Tryz.ntmps95
      go_wp2_with fail
      refine (task_All.calls A c l _ H.out).mono ?_; rintro e w2 ⟨rfl, hb⟩
      rw [ho]
      go_wp2
      go_ret
      exact ⟨by rw [hv.out]; rfl, hb⟩
def police_May.T3 : Bool × List (List Nat × List Nat) := (true, [([], []), ([], []), ([0, 1], [0, 1]), ([2], [2]), ([3], [3]), ([4], [4]), ([5], [5]), ([5], [5]), ([5], [5]), ([7, 8, 5], [5, 7, 8]), ([9, 5], [5, 9]), ([5], [5]), ([5], [5]), ([11, 12, 5], [5, 11, 12]), ([13, 5], [5, 13]), ([14, 5], [5, 14]), ([10, 15, 5], [5, 10, 15]), ([6, 16, 5], [5, 6, 16]), ([5, 17], [5, 17]), ([18, 5], [18])])
def police_May.B3 : List Nat := [0, 0, 3, 7, 15, 31, 63, 63, 63, 447, 959, 63, 63, 6207, 14399, 30783, 65471, 131071, 262143, 524287]
theorem police_May.tab3 : rtab .any (opsOf Tryz.f117 3) = police_May.T3 := by kernel_rfl
theorem police_May.bits3 : waitsOk police_May.T3.2 police_May.B3 = true := by kernel_rfl
def earlyB (last t T : Int) : Bool := decide (last ≠ -1 ∧ t < last + T)
theorem polR_iff {l : List S44} {ls : List Int} : polR l ls = true ↔ taskA l = true ∧ ls.length = l.length ∧ ∀ n ∈ ls, -1 ≤ n ∧ n ≤ 4611686018427387903 := by
  simp [polR, lastOk, and_assoc]
theorem taskA_task {l : List S44} (h : taskA l = true) {i : Nat} (hi : i < l.length) : taskR l[i] = true := by
  unfold taskA at h; rw [Bool.and_eq_true, List.all_eq_true] at h
  exact h.1 _ (List.getElem_mem hi)
theorem taskR_own {t : S44} (h : taskR t = true) : 1 ≤ t.f0 ∧ t.f0 ≤ t.f1 ∧ t.f1 ≤ t.f2 ∧ t.f2 ≤ 200 ∧ t.f3.length ≤ 4 := by
  unfold taskR at h; rw [Bool.and_eq_true, ownT_iff] at h; exact h.1
theorem police_May.calls (A : Option Addr) (c : Nat) (l : List S44) (B : Option Addr) (d : Nat) (ls : List Int) (i : Nat) (n : Int) (w : World) (h : Kd.C k44 w A l.length l) (h2 : Kd.C (Kd.int .i64) w B ls.length ls) (hd : ls.length ≤ d) (hc : l.length ≤ c) (hp : polR l ls = true) (hi : i < l.length) (hn0 : 0 ≤ n) (hn1 : n ≤ 4611686018427387703) :
    Ret 117 #[.slice A l.length c, .slice B ls.length d, .int .i64 i, .int .i64 n] w (.int .i64 (if earlyB (ls.getD i 0) n (l.getD i z44).f2 then 6 else 0)) := by
  have hu := Tryz.underlying44
  have H := Aside0.mk h
  have H2 := Aside0.mk h2
  have hl := h.2.1
  have hl2 := h2.2.1
  clear h h2
  have hpp := polR_iff.1 hp
  have hil : i < ls.length := by omega
  obtain ⟨ad, A3, c3, t, rfl, ht, -, -, -, -, -, -⟩ := el44 H.out i hi
  obtain ⟨bd, x, rfl, hx, -⟩ := elI H2.out i hil
  have hown := taskR_own (taskA_task hpp.1 hi)
  rw [ht.out] at hown
  have hxb := hpp.2.2 ls[i] (List.getElem_mem hil)
  rw [hx.out] at hxb
  obtain ⟨o1, o2, o3, o4, -⟩ := hown
  obtain ⟨x1, x2⟩ := hxb
  have E := Aside0.mk (show earlyB (ls.getD i 0) n (l.getD i z44).f2 = earlyB x n t.f2 by
    rw [List.getD_eq_getElem?_getD, List.getElem?_eq_getElem hil, List.getD_eq_getElem?_getD, List.getElem?_eq_getElem hi, Option.getD_some, Option.getD_some, hx.out, ht.out])
  have HP := Aside0.mk hp
  clear hp hpp
  generalize earlyB (ls.getD i 0) n (l.getD i z44).f2 = eb at E ⊢
  go_enter Tryz.func117, Tryz.ntmps117
  go_wp2_with fail
  refine (police_Right.calls (some ad) c l (some bd) d ls _ H.out H2.out).mono ?_; rintro e w2 ⟨rfl, hb⟩
  rw [HP.out]
  obtain ⟨ad', A3', c3', t', hA, ht', g0, g1, g2, g3, -, -⟩ := el44 (Kd.C_below H.out hb) i hi
  obtain rfl := Option.some.inj hA
  rw [ht.out] at ht'
  obtain rfl := ht'.out
  obtain ⟨bd', x', hA2, hx', y0⟩ := elI (Kd.C_below H2.out hb) i hil
  obtain rfl := Option.some.inj hA2
  rw [hx.out] at hx'
  obtain rfl := hx'.out
  clear hA hA2 ht' hx'
  go_wp2
  by_cases cx : x = -1
  · subst cx
    obtain rfl : eb = false := by rw [E.out]; simp [earlyB]
    refine st_ 20 (fun w' => Below w.heap.size w w' ∧ w'.cell? (bd.add i) = some (.int .i64 (-1)) ∧ w'.cell? (⟨(ad.add (i * 4)).block, (ad.add (i * 4)).off + 2, none⟩) = some (.int .i64 t.f2)) [] police_May.tab3 police_May.bits3 ⟨below_drew1 hb, y0, g2⟩ (h := fun HT HW hHeld => ?_)
    repeat (first | refine pn_ HT (h := ?_) | refine tn_ HT HW hHeld (h := ?_) | refine zn_ HT (h := ?_))
    refine dn_ HT (h := ?_)
    go_wp2
    go_ret
    exact ⟨rfl, (hHeld.1)⟩
  · have hv := Aside0.mk (show eb = decide (n < x + t.f2) by rw [E.out]; simp [earlyB, cx])
    have cx1 : (x != -1) = true := by simpa using cx
    have HW1 := Aside0.mk (show wrap64 (x + t.f2) = x + t.f2 from w64 (by omega) (by omega))
    clear cx E
    by_cases cn : n < x + t.f2
    · obtain rfl : eb = true := by rw [hv.out]; exact decide_eq_true cn
      have hw1 := HW1.out
      refine st_ 20 (fun w' => Below w.heap.size w w' ∧ w'.cell? (bd.add i) = some (.int .i64 x) ∧ w'.cell? (⟨(ad.add (i * 4)).block, (ad.add (i * 4)).off + 2, none⟩) = some (.int .i64 t.f2)) [] police_May.tab3 police_May.bits3 ⟨below_drew1 hb, y0, g2⟩ (h := fun HT HW hHeld => ?_)
      repeat (first | refine pn_ HT (h := ?_) | refine tn_ HT HW hHeld (h := ?_) | refine zn_ HT (h := ?_))
      clear hw1
      refine dn_ HT (h := ?_)
      go_wp2
      go_ret
      exact ⟨rfl, (hHeld.1)⟩
    · obtain rfl : eb = false := by rw [hv.out]; exact decide_eq_false cn
      have hw1 := HW1.out
      refine st_ 20 (fun w' => Below w.heap.size w w' ∧ w'.cell? (bd.add i) = some (.int .i64 x) ∧ w'.cell? (⟨(ad.add (i * 4)).block, (ad.add (i * 4)).off + 2, none⟩) = some (.int .i64 t.f2)) [] police_May.tab3 police_May.bits3 ⟨below_drew1 hb, y0, g2⟩ (h := fun HT HW hHeld => ?_)
      repeat (first | refine pn_ HT (h := ?_) | refine tn_ HT HW hHeld (h := ?_) | refine zn_ HT (h := ?_))
      clear hw1
      refine dn_ HT (h := ?_)
      go_wp2
      go_ret
      exact ⟨rfl, (hHeld.1)⟩
theorem police_Note.early (A : Option Addr) (c : Nat) (l : List S44) (B : Option Addr) (d : Nat) (ls : List Int) (i : Nat) (n : Int) (w : World) (h : Kd.C k44 w A l.length l) (h2 : Kd.C (Kd.int .i64) w B ls.length ls) (hd : ls.length ≤ d) (hc : l.length ≤ c) (hp : polR l ls = true) (hi : i < l.length) (hn0 : 0 ≤ n) (hn1 : n ≤ 4611686018427387703) (he : earlyB (ls.getD i 0) n (l.getD i z44).f2 = true) :
    Ret 99 #[.slice A l.length c, .slice B ls.length d, .int .i64 i, .int .i64 n] w (.tuple #[.slice B ls.length d, .int .i64 6]) := by
  have H := Aside0.mk (police_May.calls A c l B d ls i n w h h2 hd hc hp hi hn0 hn1)
  rw [he] at H
  go_enter Tryz.func99, Tryz.ntmps99
  go_wp2_with fail
  refine H.out.mono ?_; rintro e w2 ⟨rfl, hb⟩
  go_wp2
  go_ret2
  exact ⟨rfl, hb⟩
theorem police_Note.ok (A : Option Addr) (c : Nat) (l : List S44) (B : Option Addr) (d : Nat) (ls : List Int) (i : Nat) (n : Int) (w : World) (h : Kd.C k44 w A l.length l) (h2 : Kd.C (Kd.int .i64) w B ls.length ls) (hd : ls.length ≤ d) (hc : l.length ≤ c) (hp : polR l ls = true) (hi : i < l.length) (hn0 : 0 ≤ n) (hn1 : n ≤ 4611686018427387703) (he : earlyB (ls.getD i 0) n (l.getD i z44).f2 = false) :
    Calls Tryz.prog 99 #[.slice A l.length c, .slice B ls.length d, .int .i64 i, .int .i64 n] w fun e w' => ∃ v, e = .returned (.tuple #[v, .int .i64 0]) ∧ Kd.N (Kd.int .i64) 3 w' w.heap.size (fun _ => True) v (ls.set i n) ∧ Below w.heap.size w w' := by
  have H := Aside0.mk (police_May.calls A c l B d ls i n w h h2 hd hc hp hi hn0 hn1)
  rw [he] at H
  have H2 := Aside0.mk (Kd.C_F (Kd.heap_int .i64) h2)
  have hpp := polR_iff.1 hp
  have hil : i < ls.length := by omega
  have hl8 : ls.length ≤ 8 := by have := hpp.1; unfold taskA at this; rw [Bool.and_eq_true] at this; have := of_decide_eq_true this.2; omega
  clear h h2 hp hpp he hd hc hi hn0 hn1
  go_enter Tryz.func99, Tryz.ntmps99
  go_wp2_with fail
  refine H.out.mono ?_; rintro e w2 ⟨rfl, hb⟩
  have hN0 := N_empty (d := Kd.int .i64) w2 w.heap.size (fun _ => True) 3 hb.size trivial
  go_wp2_with (first
    | ((with_reducible refine gate_builtin (b := .append) (xs := #[.tmp 21, .tmp 22]) rfl ?_); at_builtin; refine apNR row3 (w0 := w) hN0 (Kd.F_below H2.out (below_alloc hb _)) (fun k hk => ⟨trivial, ne_own hN0 hk⟩) (fun k hk => trivial) (below_alloc hb _) (by rw [alsz]; have := hb.size; omega) (by show 0 + ls.length ≤ 100000; omega) (h := fun v5 w5 hN5 hb5 hg5 hat5 => ?_); (rw [List.nil_append] at hN5); (obtain ⟨g, cap, rfl, hbg, hgl, -⟩ := Kd.N_form hN5 (by omega)); (have HN5 := Aside0.mk hN5); clear hN5)
    | ((with_reducible refine gate_store (t := 3) (p := 27) (v := .tmp 26) rfl ?_); refine stNI (w0 := w) HN5.out hil hb5 (h := fun w6 hN6 hb6 hg6 => ?_)))
  go_ret2
  exact ⟨_, rfl, hN6, hb6⟩
theorem first1.calls (x : S182) (b v : Bool) (hv : Aside0 ((x.f5 == b) = v)) (gb : Nat) (w : World) (hg : w.heap[gb]? = some (.cells #[.bool b] 4 (0, 0))) : Ret 119 #[vJ x, .pointer (some ⟨gb, 0, none⟩)] w (.bool v) := by
  have hu := Tryz.underlying182
  have hg1 := bx1a hg
  go_enter Tryz.func119, Tryz.ntmps119
  go_wp2
  go_ret
  exact ⟨by rw [← hv.out]; rfl, bl1⟩
def firstL (js : List S182) (b : Bool) : Nat → Int
  | 0 => -1
  | i + 1 => let o := firstL js b i; let x := js.getD i z182; if (x.f5 == b) = true then (if o < 0 then i else if jobAhead x (js.getD o.toNat z182) = true then i else o) else o
def firstI (js : List S182) (b : Bool) : Int := firstL js b js.length
theorem firstL_bd (js : List S182) (b : Bool) : ∀ i, -1 ≤ firstL js b i ∧ firstL js b i < i
  | 0 => by simp [firstL]
  | i + 1 => by
    have := firstL_bd js b i
    unfold firstL
    dsimp only
    split
    · split
      · omega
      · split <;> omega
    · omega
def job_first.T5 : Bool × List (List Nat × List Nat) := (true, [([], []), ([], []), ([0, 1], [0, 1]), ([2, 2], [2]), ([3], [3]), ([4, 3], [3, 4]), ([5, 3, 3], [3, 5]), ([6], [6]), ([6], [6]), ([6], [6]), ([6], [6]), ([9, 10, 6], [6, 9, 10]), ([11, 6], [6, 11]), ([7, 8, 12, 6, 6], [6, 7, 8, 12]), ([6, 13, 3], [3, 6, 13]), ([3, 14], [3, 14])])
def job_first.B5 : List Nat := [0, 0, 3, 7, 15, 31, 63, 127, 127, 127, 127, 1663, 3711, 8191, 16383, 32767]
theorem job_first.tab5 : rtab .any (opsOf Tryz.f118 5) = job_first.T5 := by kernel_rfl
theorem job_first.bits5 : waitsOk job_first.T5.2 job_first.B5 = true := by kernel_rfl
theorem job_first.calls (A : Option Addr) (c : Nat) (js : List S182) (b : Bool) (gb : Nat) (w : World) (h : Kd.C k182 w A js.length js) (hg : w.heap[gb]? = some (.cells #[.bool b] 4 (0, 0))) :
    Ret 118 #[.slice A js.length c, .func (Fn.func 119) #[] #[.pointer (some ⟨gb, 0, none⟩)], .func (Fn.func 120) #[] #[]] w (.int .i64 (firstI js b)) := by
  have hu := Tryz.underlying182
  have H := Aside0.mk h
  have HG := Aside0.mk hg
  have hl := h.2.1
  clear h hg
  go_enter Tryz.func118, Tryz.ntmps118
  go_wp2
  go_loopg [7, 12] js.length (fun k v7 v12 wr => ∃ i : Nat, i + k = js.length ∧ v7 = .int .i64 (firstL js b i) ∧ v12 = .int .i64 i ∧ Below w.heap.size w wr)
  case atStart => exact ⟨0, by omega, rfl, rfl, bl0⟩
  case round =>
    obtain ⟨i, hi, rfl, rfl, hb⟩ := hrel
    by_cases ci : i < js.length
    · obtain ⟨ad, x, rfl, hx, h0, h1, h2, h3, h4, h5⟩ := el182 (Kd.C_below H.out hb) i ci
      have hbd := firstL_bd js b i
      have E := Aside0.mk (show firstL js b (i + 1) = if (x.f5 == b) = true then (if firstL js b i < 0 then (i : Int) else if jobAhead x (js.getD (firstL js b i).toNat z182) = true then (i : Int) else firstL js b i) else firstL js b i by
        rw [firstL, show js.getD i z182 = x by rw [List.getD_eq_getElem?_getD, List.getElem?_eq_getElem ci, Option.getD_some, hx.out]])
      generalize firstL js b i = o at hbd E ⊢
      have hB := blk_new wr (.cells #[.int .i64 x.f0, .int .i64 x.f1, .int .i64 x.f2, .int .i64 x.f3, .int .i64 x.f4, .bool x.f5] 182)
      have hG := blk_al (blk_below HG.out hb) (.cells #[.int .i64 x.f0, .int .i64 x.f1, .int .i64 x.f2, .int .i64 x.f3, .int .i64 x.f4, .bool x.f5] 182)
      have hb' := below_alloc hb (.cells #[.int .i64 x.f0, .int .i64 x.f1, .int .i64 x.f2, .int .i64 x.f3, .int .i64 x.f4, .bool x.f5] 182)
      obtain ⟨s0, s1, s2, s3, s4, s5⟩ := bx6 hB
      have HBD := Aside0.mk hbd
      clear hbd
      cases hq : (x.f5 == b) with
      | false =>
        have HQ := Aside0.mk hq
        have hv := Aside0.mk (show firstL js b (i + 1) = o by rw [E.out, hq]; rfl)
        clear hq
        go_wp2
        refine st_ 16 (fun w' => w'.cell? ⟨wr.heap.size, 0, none⟩ = some (.int .i64 x.f0) ∧ w'.cell? ⟨wr.heap.size, 1, none⟩ = some (.int .i64 x.f1) ∧ w'.cell? ⟨wr.heap.size, 2, none⟩ = some (.int .i64 x.f2) ∧ w'.cell? ⟨wr.heap.size, 3, none⟩ = some (.int .i64 x.f3) ∧ w'.cell? ⟨wr.heap.size, 4, none⟩ = some (.int .i64 x.f4) ∧ w'.cell? ⟨wr.heap.size, 5, none⟩ = some (.bool x.f5) ∧ Below w.heap.size w w') [] job_first.tab5 job_first.bits5 ⟨s0, s1, s2, s3, s4, s5, below_drew1 hb'⟩ (h := fun HT HW hHeld => ?_)
        repeat (first | refine pn_ HT (h := ?_) | refine tn_ HT HW hHeld (h := ?_) | refine zn_ HT (h := ?_))
        refine oc_ HT (first1.calls x b false HQ gb _ hG) (hS := fun w3 hb3 => ⟨be_cell hb3 hHeld.1, be_cell hb3 hHeld.2.1, be_cell hb3 hHeld.2.2.1, be_cell hb3 hHeld.2.2.2.1, be_cell hb3 hHeld.2.2.2.2.1, be_cell hb3 hHeld.2.2.2.2.2.1, below_step hHeld.2.2.2.2.2.2 hb3⟩) (h := fun w3 hb3 hHeld => ?_)
        repeat (first | refine pn_ HT (h := ?_) | refine tn_ HT HW hHeld (h := ?_) | refine zn_ HT (h := ?_))
        refine dn_ HT (h := ?_)
        go_wp2
        go_roundg (js.length - i - 1)
        case measure => omega
        case rel => exact ⟨i + 1, by omega, by rw [hv.out], by go_num, hHeld.2.2.2.2.2.2⟩
      | true =>
        have HQ := Aside0.mk hq
        by_cases co : o < 0
        · have hv := Aside0.mk (show firstL js b (i + 1) = i by rw [E.out, hq, if_pos rfl, if_pos co])
          clear hq
          go_wp2
          refine st_ 16 (fun w' => w'.cell? ⟨wr.heap.size, 0, none⟩ = some (.int .i64 x.f0) ∧ w'.cell? ⟨wr.heap.size, 1, none⟩ = some (.int .i64 x.f1) ∧ w'.cell? ⟨wr.heap.size, 2, none⟩ = some (.int .i64 x.f2) ∧ w'.cell? ⟨wr.heap.size, 3, none⟩ = some (.int .i64 x.f3) ∧ w'.cell? ⟨wr.heap.size, 4, none⟩ = some (.int .i64 x.f4) ∧ w'.cell? ⟨wr.heap.size, 5, none⟩ = some (.bool x.f5) ∧ Below w.heap.size w w') [] job_first.tab5 job_first.bits5 ⟨s0, s1, s2, s3, s4, s5, below_drew1 hb'⟩ (h := fun HT HW hHeld => ?_)
          repeat (first | refine pn_ HT (h := ?_) | refine tn_ HT HW hHeld (h := ?_) | refine zn_ HT (h := ?_))
          refine oc_ HT (first1.calls x b true HQ gb _ hG) (hS := fun w3 hb3 => ⟨be_cell hb3 hHeld.1, be_cell hb3 hHeld.2.1, be_cell hb3 hHeld.2.2.1, be_cell hb3 hHeld.2.2.2.1, be_cell hb3 hHeld.2.2.2.2.1, be_cell hb3 hHeld.2.2.2.2.2.1, below_step hHeld.2.2.2.2.2.2 hb3⟩) (h := fun w3 hb3 hHeld => ?_)
          repeat (first | refine pn_ HT (h := ?_) | refine tn_ HT HW hHeld (h := ?_) | refine zn_ HT (h := ?_))
          refine dn_ HT (h := ?_)
          go_wp2
          go_roundg (js.length - i - 1)
          case measure => omega
          case rel => exact ⟨i + 1, by omega, by rw [hv.out], by go_num, hHeld.2.2.2.2.2.2⟩
        · have hbd := HBD.out
          obtain ⟨p, rfl⟩ : ∃ p : Nat, o = p := ⟨o.toNat, by omega⟩
          obtain ⟨ad2, y, hA2, hy, g0, g1, g2, g3, g4, g5⟩ := el182 (Kd.C_below H.out hb') p (by omega)
          obtain rfl := Option.some.inj hA2
          clear hA2
          have hv := Aside0.mk (show firstL js b (i + 1) = if jobAhead x y = true then (i : Int) else p by
            rw [E.out, hq, if_pos rfl, if_neg co, Int.toNat_natCast, show js.getD p z182 = y by rw [List.getD_eq_getElem?_getD, List.getElem?_eq_getElem (show p < js.length by omega), Option.getD_some, hy.out]])
          have hp1 : p < js.length := by omega
          have cd : decide ((p : Int) < 0) = false := by simp
          clear hq co
          go_wp2
          refine st_ 16 (fun w' => w'.cell? ⟨wr.heap.size, 0, none⟩ = some (.int .i64 x.f0) ∧ w'.cell? ⟨wr.heap.size, 1, none⟩ = some (.int .i64 x.f1) ∧ w'.cell? ⟨wr.heap.size, 2, none⟩ = some (.int .i64 x.f2) ∧ w'.cell? ⟨wr.heap.size, 3, none⟩ = some (.int .i64 x.f3) ∧ w'.cell? ⟨wr.heap.size, 4, none⟩ = some (.int .i64 x.f4) ∧ w'.cell? ⟨wr.heap.size, 5, none⟩ = some (.bool x.f5) ∧ Below w.heap.size w w' ∧ w'.cell? (ad.add (p * 6)) = some (.int .i64 y.f0) ∧ w'.cell? ⟨(ad.add (p * 6)).block, (ad.add (p * 6)).off + 1, none⟩ = some (.int .i64 y.f1) ∧ w'.cell? ⟨(ad.add (p * 6)).block, (ad.add (p * 6)).off + 2, none⟩ = some (.int .i64 y.f2) ∧ w'.cell? ⟨(ad.add (p * 6)).block, (ad.add (p * 6)).off + 3, none⟩ = some (.int .i64 y.f3) ∧ w'.cell? ⟨(ad.add (p * 6)).block, (ad.add (p * 6)).off + 4, none⟩ = some (.int .i64 y.f4) ∧ w'.cell? ⟨(ad.add (p * 6)).block, (ad.add (p * 6)).off + 5, none⟩ = some (.bool y.f5)) [] job_first.tab5 job_first.bits5 ⟨s0, s1, s2, s3, s4, s5, below_drew1 hb', g0, g1, g2, g3, g4, g5⟩ (h := fun HT HW hHeld => ?_)
          repeat (first | refine pn_ HT (h := ?_) | refine tn_ HT HW hHeld (h := ?_) | refine zn_ HT (h := ?_))
          refine oc_ HT (first1.calls x b true HQ gb _ hG) (hS := fun w3 hb3 => ⟨be_cell hb3 hHeld.1, be_cell hb3 hHeld.2.1, be_cell hb3 hHeld.2.2.1, be_cell hb3 hHeld.2.2.2.1, be_cell hb3 hHeld.2.2.2.2.1, be_cell hb3 hHeld.2.2.2.2.2.1, below_step hHeld.2.2.2.2.2.2.1 hb3, be_cell hb3 hHeld.2.2.2.2.2.2.2.1, be_cell hb3 hHeld.2.2.2.2.2.2.2.2.1, be_cell hb3 hHeld.2.2.2.2.2.2.2.2.2.1, be_cell hb3 hHeld.2.2.2.2.2.2.2.2.2.2.1, be_cell hb3 hHeld.2.2.2.2.2.2.2.2.2.2.2.1, be_cell hb3 hHeld.2.2.2.2.2.2.2.2.2.2.2.2⟩) (h := fun w3 hb3 hHeld => ?_)
          repeat (first | refine pn_ HT (h := ?_) | refine tn_ HT HW hHeld (h := ?_) | refine zn_ HT (h := ?_))
          refine oc_ HT (job_Ahead.calls x y _) (hS := fun w3 hb3 => ⟨be_cell hb3 hHeld.1, be_cell hb3 hHeld.2.1, be_cell hb3 hHeld.2.2.1, be_cell hb3 hHeld.2.2.2.1, be_cell hb3 hHeld.2.2.2.2.1, be_cell hb3 hHeld.2.2.2.2.2.1, below_step hHeld.2.2.2.2.2.2.1 hb3, be_cell hb3 hHeld.2.2.2.2.2.2.2.1, be_cell hb3 hHeld.2.2.2.2.2.2.2.2.1, be_cell hb3 hHeld.2.2.2.2.2.2.2.2.2.1, be_cell hb3 hHeld.2.2.2.2.2.2.2.2.2.2.1, be_cell hb3 hHeld.2.2.2.2.2.2.2.2.2.2.2.1, be_cell hb3 hHeld.2.2.2.2.2.2.2.2.2.2.2.2⟩) (h := fun w3 hb3 hHeld => ?_)
          generalize jobAhead x y = v at hv ⊢
          repeat (first | refine pn_ HT (h := ?_) | refine tn_ HT HW hHeld (h := ?_) | refine zn_ HT (h := ?_))
          refine dn_ HT (h := ?_)
          cases v with
          | true =>
            go_wp2
            go_roundg (js.length - i - 1)
            case measure => omega
            case rel => exact ⟨i + 1, by omega, by rw [hv.out]; simp, by go_num, hHeld.2.2.2.2.2.2.1⟩
          | false =>
            go_wp2
            go_roundg (js.length - i - 1)
            case measure => omega
            case rel => exact ⟨i + 1, by omega, by rw [hv.out]; simp, by go_num, hHeld.2.2.2.2.2.2.1⟩
    · have : i = js.length := by omega
      subst this
      go_wp2
      go_ret
      exact ⟨rfl, hb⟩
theorem job_First.calls (A : Option Addr) (c : Nat) (js : List S182) (b : Bool) (w : World) (h : Kd.C k182 w A js.length js) : Ret 101 #[.slice A js.length c, .bool b] w (.int .i64 (firstI js b)) := by
  have H := Aside0.mk h
  clear h
  go_enter Tryz.func101, Tryz.ntmps101
  go_wp2_with fail
  refine (job_first.calls A c js b _ _ (C_alloc H.out _) (blk_new w _)).mono ?_; rintro e w2 ⟨rfl, hb⟩
  go_wp2
  go_ret
  exact ⟨rfl, below_step bl1 hb⟩
end Go.Proofs.YtmngaagojkihbaaGreat.FTop
