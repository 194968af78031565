/- Contracts of functions that the statement TopAlone reaches, and plain lemmas. No condition. -/
import Derived.Test.YtmngaagojkihbaaGreatZ24
namespace Go.Proofs.YtmngaagojkihbaaGreat.FTop
open Go.RowKit Go.Proofs.YtmngaagojkihbaaGreatW.PrintWords Go.Proofs.YtmngaagojkihbaaGreatW.PrintLast Go.Proofs.YtmngaagojkihbaaGreatW.PrintMore
attribute [local go_sem] max2_int min2_int max_two min_two
set_option linter.unusedVariables false
set_option linter.unusedSimpArgs false
set_option maxHeartbeats 8000000
set_option maxRecDepth 100000
def BoolOut (e : Ending) (P : Bool → Prop) : Prop := ∃ b, e = .returned (.bool b) ∧ P b
theorem bo {b : Bool} {P : Bool → Prop} (h : P b) : BoolOut (.returned (.bool b)) P := ⟨b, rfl, h⟩
abbrev RetW (n : Nat) (args : Array Value) (w : World) (P : Bool → Prop) : Prop := Calls Tryz.prog n args w fun e w' => BoolOut e P ∧ Below w.heap.size w w'
def NatOut (e : Ending) (P : Nat → Prop) : Prop := ∃ n : Nat, e = .returned (.int .i64 n) ∧ P n
theorem no_ {n : Nat} {P : Nat → Prop} (h : P n) : NatOut (.returned (.int .i64 n)) P := ⟨n, rfl, h⟩
def fewP (l : List S41) : Prop := l.length ≤ 100 ∧ ∀ s ∈ l, s.f0.length ≤ 10
theorem law21_Few.calls (A : Option Addr) (c : Nat) (l : List S41) (w : World) (h : Kd.C k41 w A l.length l) : RetW 10 #[.slice A l.length c] w (fun b => b = true → fewP l) := by
  have H := Aside0.mk h
  have hl := h.2.1
  have hu := Tryz.underlying41
  have hu2 := Tryz.underlying46
  have hu3 := Tryz.underlying44
  clear h
  go_enter Tryz.func10, Tryz.ntmps10
  go_wp2
  go_loopg [3] l.length (fun k v3 wr => ∃ i : Nat, i + k = l.length ∧ v3 = .int .i64 i ∧ Aside0 (∀ j (hj : j < l.length), j < i → l[j].f0.length ≤ 10) ∧ w = wr)
  case atStart => exact ⟨0, by omega, by go_num, ⟨fun j hj h => by omega⟩, rfl⟩
  case round =>
    obtain ⟨i, hi, rfl, hno, rfl⟩ := hrel
    by_cases ci : i < l.length
    · obtain ⟨ad, B, d, x, hA, hx, e0, hd, hC⟩ := el41 H.out i ci
      subst hA
      have HC := Aside0.mk hC
      have hxm := hC.2.1
      clear hC
      by_cases cx : x.f0.length ≤ 10
      · have hno2 := Aside0.mk (show ∀ j (hj : j < l.length), j < i + 1 → l[j].f0.length ≤ 10 from fun j hj hji => by
          by_cases h : j < i
          · exact hno.out j hj h
          · have : j = i := by omega
            subst this; rw [hx.out]; exact cx)
        go_wp2
        go_loopg [4] x.f0.length (fun k v4 wr => ∃ m : Nat, m + k = x.f0.length ∧ v4 = .int .i64 m ∧ w = wr)
        case atStart => exact ⟨0, by omega, by go_num, rfl⟩
        case round =>
          obtain ⟨m, hm, rfl, rfl⟩ := hrel
          by_cases cm : m < x.f0.length
          · obtain ⟨adc, A7, c7, cmd, hAc, hcm, y0, y1, y2, y3, y4, y5, y6, y7, l7, g7⟩ := el46 HC.out m cm
            subst hAc
            by_cases cs : cmd.f4.f3.length ≤ 20
            · go_wp2
              go_roundg (x.f0.length - m - 1)
              case measure => omega
              case rel => exact ⟨m + 1, by omega, by go_num, rfl⟩
            · go_wp2
              go_ret
              exact ⟨bo (fun h => by simp at h), bl0⟩
          · go_wp2
            go_roundg (l.length - i - 1)
            case measure => omega
            case rel => exact ⟨i + 1, by omega, by go_num, hno2, rfl⟩
      · go_wp2
        go_ret
        exact ⟨bo (fun h => by simp at h), bl0⟩
    · go_wp2
      go_ret
      exact ⟨bo (fun h => ⟨by simp at h; omega, fun s hs => by obtain ⟨j, hj, rfl⟩ := List.getElem_of_mem hs; exact hno.out j hj (by omega)⟩), bl0⟩
theorem ref19_at.calls (A : Option Addr) (c : Nat) (b : List Int) (i : Int) (w : World) (h : Kd.C (Kd.int .u8) w A b.length b) (hb : ∀ x ∈ b, 0 ≤ x ∧ x ≤ 255) (hl : b.length ≤ 100000) (h0 : 0 ≤ i) :
    Calls Tryz.prog 20 #[.slice A b.length c, .int .i64 i] w fun e w' => NatOut e (· ≤ 255) ∧ Below w.heap.size w w' := by
  have H := Aside0.mk h
  have HB := Aside0.mk hb
  clear h hb
  obtain ⟨k, rfl⟩ : ∃ k : Nat, i = k := ⟨i.toNat, by omega⟩
  go_enter Tryz.func20, Tryz.ntmps20
  by_cases ck : k < b.length
  · obtain ⟨ad, x, hA, hx, e0⟩ := elI H.out k ck
    subst hA
    have hxb := HB.out x (by rw [← hx.out]; exact List.getElem_mem ck)
    obtain ⟨xn, rfl⟩ : ∃ n : Nat, x = n := ⟨x.toNat, by omega⟩
    go_wp2
    go_ret
    exact ⟨no_ (by omega), bl0⟩
  · go_wp2
    go_ret
    exact ⟨no_ (n := 0) (by omega), bl0⟩
theorem ref09_Right.calls (f : S85) (w : World) : RetW 40 #[vF f] w (fun b => b = true → 1 ≤ f.f0 ∧ f.f0 ≤ 200) := by
  have hu := Tryz.underlying85
  go_enter Tryz.func40, Tryz.ntmps40
  by_cases c1 : 1 ≤ f.f0
  · by_cases c2 : f.f0 ≤ 200
    · go_wp2
      all_goals (go_ret; first | exact ⟨bo (fun _ => trivial), bl1⟩ | exact ⟨bo trivial, bl1⟩ | exact ⟨bo (fun _ => ⟨by omega, by omega⟩), bl1⟩)
    · go_wp2
      all_goals (go_ret; exact ⟨bo (fun h => by simp at h), bl1⟩)
  · go_wp2
    all_goals (go_ret; exact ⟨bo (fun h => by simp at h), bl1⟩)
theorem ref18_May.calls (p : S91) (w : World) : RetW 80 #[vP p] w (fun _ => True) := by
  have hu := Tryz.underlying91
  go_enter Tryz.func80, Tryz.ntmps80
  go_wp2
  all_goals (go_ret; exact ⟨bo trivial, bl1⟩)
theorem ref18_All.calls (A : Option Addr) (c : Nat) (l : List S91) (w : World) (h : Kd.C k91 w A l.length l) : RetW 39 #[.slice A l.length c] w (fun _ => True) := by
  have H := Aside0.mk h
  have hl := h.2.1
  have hu := Tryz.underlying91
  clear h
  go_enter Tryz.func39, Tryz.ntmps39
  go_wp2
  go_loopg [3] l.length (fun k v3 wr => ∃ i : Nat, i + k = l.length ∧ v3 = .int .i64 i ∧ Below w.heap.size w wr)
  case atStart => exact ⟨0, by omega, by go_num, bl0⟩
  case round =>
    obtain ⟨i, hi, rfl, hbr⟩ := hrel
    by_cases ci : i < l.length
    · obtain ⟨ad, x, hA, hx, e0, e1, e2⟩ := el91 (Kd.C_below H.out hbr) i ci
      subst hA
      go_wp2_with fail
      refine (ref18_May.calls x wr).mono ?_; rintro _ w2 ⟨⟨b, rfl, -⟩, hb2⟩
      have hb3 := below_step hbr hb2
      cases b
      · go_wp2
        go_ret
        exact ⟨bo trivial, hb3⟩
      · go_wp2
        go_roundg (l.length - i - 1)
        case measure => omega
        case rel => exact ⟨i + 1, by omega, by go_num, hb3⟩
    · go_wp2
      go_ret
      exact ⟨bo trivial, hbr⟩
def ownP (t : S44) : Prop := 1 ≤ t.f0 ∧ t.f0 ≤ t.f1 ∧ t.f1 ≤ t.f2 ∧ t.f2 ≤ 200
def bytS (s : S89) : Prop := 0 ≤ s.f1 ∧ s.f1 ≤ 255 ∧ 0 ≤ s.f2 ∧ s.f2 ≤ 255
theorem ref05_Right.calls (t : S44) (A : Option Addr) (c : Nat) (w : World) (h : Kd.C k89 w A t.f3.length t.f3) (hby : ∀ s ∈ t.f3, bytS s) : RetW 81 #[.agg #[.int .i64 t.f0, .int .i64 t.f1, .int .i64 t.f2, .slice A t.f3.length c]] w (fun b => b = true → ownP t) := by
  have H := Aside0.mk h
  have HBY := Aside0.mk hby
  have hl := h.2.1
  have hu := Tryz.underlying44
  have hu2 := Tryz.underlying89
  clear h hby
  have hX0 := blk_new w (.cells #[.int .i64 t.f0, .int .i64 t.f1, .int .i64 t.f2, .slice A t.f3.length c] 44)
  go_enter Tryz.func81, Tryz.ntmps81
  by_cases c0 : 1 ≤ t.f0 ∧ t.f0 ≤ t.f1 ∧ t.f1 ≤ t.f2 ∧ t.f2 ≤ 200 ∧ t.f3.length ≤ 4
  · obtain ⟨p1, p2, p3, p4, p5⟩ := c0
    have HOW := Aside0.mk (show ownP t from ⟨p1, p2, p3, p4⟩)
    go_wp2
    go_loopg [3] t.f3.length (fun k v3 wr => ∃ i : Nat, i + k = t.f3.length ∧ v3 = .int .i64 i ∧ wr.heap[w.heap.size]? = some (.cells #[.int .i64 t.f0, .int .i64 t.f1, .int .i64 t.f2, .slice A t.f3.length c] 44 (0, 0)) ∧ Below w.heap.size w wr)
    case atStart => exact ⟨0, by omega, by go_num, hX0, bl1⟩
    case round =>
      clear hX0
      obtain ⟨i, hi, rfl, hX, hbr⟩ := hrel
      obtain ⟨x0, x1, x2, x3⟩ := bx4 hX
      by_cases ci : i < t.f3.length
      · obtain ⟨ad, s, hA, hx, e0, e1, e2⟩ := el89 (Kd.C_below H.out hbr) i ci
        subst hA
        have hsb := HBY.out s (by rw [← hx.out]; exact List.getElem_mem ci)
        obtain ⟨b1, b2, b3, b4⟩ := hsb
        have hX1 := blk_al hX (.cells #[.int .i64 s.f0, .int .i64 s.f1, .int .i64 s.f2] 89)
        have hS1 := blk_new wr (.cells #[.int .i64 s.f0, .int .i64 s.f1, .int .i64 s.f2] 89)
        have hb1 := below_alloc hbr (.cells #[.int .i64 s.f0, .int .i64 s.f1, .int .i64 s.f2] 89)
        obtain ⟨y0, y1, y2, y3⟩ := bx4 hX1
        obtain ⟨z0, z1, z2⟩ := bx3 hS1
        by_cases cs : 0 ≤ s.f0 ∧ s.f0 ≤ 3 ∧ 0 ≤ s.f1 ∧ 1 ≤ s.f2 ∧ s.f1 ≤ t.f0 ∧ s.f2 ≤ t.f0 ∧ s.f1 + s.f2 ≤ t.f0
        · obtain ⟨q1, q2, q3, q4, q5, q6, q7⟩ := cs
          go_wp2
          have hg4l := blk_lt hS1
          obtain ⟨g4, hg4⟩ : ∃ g4, g4 = wr.heap.size := ⟨_, rfl⟩
          rw [← hg4] at hS1 ⊢
          clear hg4 x0 x1 x2 x3 y0 y1 y2 y3 z0 z1 z2 e0 e1 e2
          go_loopg [5] i (fun k v5 wr => ∃ m : Nat, m + k = i ∧ v5 = .int .i64 m ∧ wr.heap[w.heap.size]? = some (.cells #[.int .i64 t.f0, .int .i64 t.f1, .int .i64 t.f2, .slice (some ad) t.f3.length c] 44 (0, 0)) ∧ wr.heap[g4]? = some (.cells #[.int .i64 s.f0, .int .i64 s.f1, .int .i64 s.f2] 89 (0, 0)) ∧ Below w.heap.size w wr)
          case atStart => exact ⟨0, by omega, by go_num, hX1, hS1, hb1⟩
          case round =>
            clear hX1 hS1 hb1 hX hbr hg4l
            obtain ⟨m, hm, rfl, hXq, hSq, hbq⟩ := hrel
            obtain ⟨x0, x1, x2, x3⟩ := bx4 hXq
            obtain ⟨z0, z1, z2⟩ := bx3 hSq
            by_cases cm : m < i
            · obtain ⟨ad2, a, hA2, hxa, u0, u1, u2⟩ := el89 (Kd.C_below H.out hbq) m (by omega)
              obtain rfl := Option.some.inj hA2
              obtain ⟨d1, d2, d3, d4⟩ := HBY.out a (by rw [← hxa.out]; exact List.getElem_mem _)
              have hX2 := blk_al hXq (.cells #[.int .i64 a.f0, .int .i64 a.f1, .int .i64 a.f2] 89)
              have hS2 := blk_al hSq (.cells #[.int .i64 a.f0, .int .i64 a.f1, .int .i64 a.f2] 89)
              have hAB := blk_new wr (.cells #[.int .i64 a.f0, .int .i64 a.f1, .int .i64 a.f2] 89)
              obtain ⟨t0_, t1_, t2_, t3_⟩ := bx4 hX2
              obtain ⟨r0_, r1_, r2_⟩ := bx3 hS2
              obtain ⟨a0_, a1_, a2_⟩ := bx3 hAB
              obtain ⟨g6, hg6⟩ : ∃ g6, g6 = wr.heap.size := ⟨_, rfl⟩
              rw [← hg6] at hAB
              have HAB := Aside0.mk hAB
              clear hAB
              rcases Int.lt_trichotomy s.f1 a.f1 with c1 | c1 | c1
              · have hb2 := below_alloc hbq (.cells #[.int .i64 a.f0, .int .i64 a.f1, .int .i64 a.f2] 89)
                go_wp2
                go_ret
                exact ⟨bo (fun h => by simp at h), hb2⟩
              · have e1 : (s.f1 == a.f1) = true := by simpa using c1
                have e2 : a.f1 ≤ s.f1 := by omega
                have e3 : s.f1 ≤ a.f1 := by omega
                clear c1
                by_cases c2 : a.f2 < s.f2
                · have hb2 := below_alloc hbq (.cells #[.int .i64 a.f0, .int .i64 a.f1, .int .i64 a.f2] 89)
                  go_wp2
                  go_ret
                  exact ⟨bo (fun h => by simp at h), hb2⟩
                · have hb3 := below_alloc hbq (.cells #[.int .i64 a.f0, .int .i64 a.f1, .int .i64 a.f2] 89)
                  go_wp2
                  rw [← hg6]
                  clear u0 u1 u2 hXq hSq hg6
                  try clear e1 e2 e3 c2
                  go_loopg [7, 8, 9] s.f2.toNat (fun k v7 v8 v9 wr => ∃ j x y : Nat, (j : Int) + k = s.f2 ∧ v7 = .int .i64 x ∧ v8 = .int .i64 y ∧ v9 = .int .i64 (s.f1 + j) ∧ x ≤ j ∧ y ≤ j ∧ wr.heap[w.heap.size]? = some (.cells #[.int .i64 t.f0, .int .i64 t.f1, .int .i64 t.f2, .slice (some ad) t.f3.length c] 44 (0, 0)) ∧ wr.heap[g4]? = some (.cells #[.int .i64 s.f0, .int .i64 s.f1, .int .i64 s.f2] 89 (0, 0)) ∧ wr.heap[g6]? = some (.cells #[.int .i64 a.f0, .int .i64 a.f1, .int .i64 a.f2] 89 (0, 0)) ∧ Below w.heap.size w wr)
                  case atStart => exact ⟨0, 0, 0, by omega, rfl, rfl, by go_num, Nat.le_refl _, Nat.le_refl _, hX2, hS2, HAB.out, hb3⟩
                  case round =>
                    clear hX2 hS2 HAB hb3 t0_ t1_ t2_ t3_ r0_ r1_ r2_ a0_ a1_ a2_ hbq
                    obtain ⟨j, xx, yy, hj, rfl, rfl, rfl, hxx, hyy, hX3, hS3, hA3, hbt⟩ := hrel
                    obtain ⟨t0_, t1_, t2_, t3_⟩ := bx4 hX3
                    obtain ⟨r0_, r1_, r2_⟩ := bx3 hS3
                    obtain ⟨a0_, a1_, a2_⟩ := bx3 hA3
                    by_cases cj : (j : Int) < s.f2
                    · by_cases ca : s.f1 + (j : Int) < a.f1 + a.f2
                      · go_wp2
                        go_roundg (s.f2 - j - 1).toNat
                        case measure => omega
                        case rel => exact ⟨j + 1, xx + 1, yy, by omega, by go_num, rfl, by go_num, by omega, by omega, hX3, hS3, hA3, hbt⟩
                      · go_wp2
                        go_roundg (s.f2 - j - 1).toNat
                        case measure => omega
                        case rel => exact ⟨j + 1, xx, yy + 1, by omega, rfl, by go_num, by go_num, by omega, by omega, hX3, hS3, hA3, hbt⟩
                    · go_wp2
                      all_goals first
                        | (go_ret; exact ⟨bo (fun h => by simp at h), hbt⟩)
                        | (go_roundg (i - m - 1)
                           case measure => omega
                           case rel => exact ⟨m + 1, by omega, by go_num, hX3, hS3, hbt⟩)
              · have hb3 := below_alloc hbq (.cells #[.int .i64 a.f0, .int .i64 a.f1, .int .i64 a.f2] 89)
                go_wp2
                rw [← hg6]
                clear u0 u1 u2 hXq hSq hg6
                try clear e1 e2 e3 c2
                go_loopg [7, 8, 9] s.f2.toNat (fun k v7 v8 v9 wr => ∃ j x y : Nat, (j : Int) + k = s.f2 ∧ v7 = .int .i64 x ∧ v8 = .int .i64 y ∧ v9 = .int .i64 (s.f1 + j) ∧ x ≤ j ∧ y ≤ j ∧ wr.heap[w.heap.size]? = some (.cells #[.int .i64 t.f0, .int .i64 t.f1, .int .i64 t.f2, .slice (some ad) t.f3.length c] 44 (0, 0)) ∧ wr.heap[g4]? = some (.cells #[.int .i64 s.f0, .int .i64 s.f1, .int .i64 s.f2] 89 (0, 0)) ∧ wr.heap[g6]? = some (.cells #[.int .i64 a.f0, .int .i64 a.f1, .int .i64 a.f2] 89 (0, 0)) ∧ Below w.heap.size w wr)
                case atStart => exact ⟨0, 0, 0, by omega, rfl, rfl, by go_num, Nat.le_refl _, Nat.le_refl _, hX2, hS2, HAB.out, hb3⟩
                case round =>
                  clear hX2 hS2 HAB hb3 t0_ t1_ t2_ t3_ r0_ r1_ r2_ a0_ a1_ a2_ hbq
                  obtain ⟨j, xx, yy, hj, rfl, rfl, rfl, hxx, hyy, hX3, hS3, hA3, hbt⟩ := hrel
                  obtain ⟨t0_, t1_, t2_, t3_⟩ := bx4 hX3
                  obtain ⟨r0_, r1_, r2_⟩ := bx3 hS3
                  obtain ⟨a0_, a1_, a2_⟩ := bx3 hA3
                  by_cases cj : (j : Int) < s.f2
                  · by_cases ca : s.f1 + (j : Int) < a.f1 + a.f2
                    · go_wp2
                      go_roundg (s.f2 - j - 1).toNat
                      case measure => omega
                      case rel => exact ⟨j + 1, xx + 1, yy, by omega, by go_num, rfl, by go_num, by omega, by omega, hX3, hS3, hA3, hbt⟩
                    · go_wp2
                      go_roundg (s.f2 - j - 1).toNat
                      case measure => omega
                      case rel => exact ⟨j + 1, xx, yy + 1, by omega, rfl, by go_num, by go_num, by omega, by omega, hX3, hS3, hA3, hbt⟩
                  · go_wp2
                    all_goals first
                      | (go_ret; exact ⟨bo (fun h => by simp at h), hbt⟩)
                      | (go_roundg (i - m - 1)
                         case measure => omega
                         case rel => exact ⟨m + 1, by omega, by go_num, hX3, hS3, hbt⟩)
            · go_wp2
              go_roundg (t.f3.length - i - 1)
              case measure => omega
              case rel => exact ⟨i + 1, by omega, by go_num, hXq, hbq⟩
        · go_wp2
          all_goals first | (exfalso; omega) | (go_ret; exact ⟨bo (fun h => by simp at h), hb1⟩)
      · go_wp2
        go_ret
        first | exact ⟨bo (fun _ => HOW.out), hbr⟩ | exact ⟨bo HOW.out, hbr⟩
  · go_wp2
    all_goals first | (exfalso; omega) | (go_ret; exact ⟨bo (fun h => by simp at h), bl1⟩)
theorem ref05_All.calls (A : Option Addr) (c : Nat) (l : List S44) (w : World) (h : Kd.C k44 w A l.length l) (hby : ∀ t ∈ l, ∀ s ∈ t.f3, bytS s) : RetW 41 #[.slice A l.length c] w (fun b => b = true → ∀ t ∈ l, ownP t) := by
  have H := Aside0.mk h
  have HBY := Aside0.mk hby
  have hl := h.2.1
  have hu := Tryz.underlying44
  clear h hby
  go_enter Tryz.func41, Tryz.ntmps41
  go_wp2
  go_loopg [3, 4] l.length (fun k v3 v4 wr => ∃ i n : Nat, i + k = l.length ∧ v3 = .int .i64 n ∧ v4 = .int .i64 i ∧ n ≤ i ∧ Aside0 (n = i → ∀ j (hj : j < l.length), j < i → ownP l[j]) ∧ Below w.heap.size w wr)
  case atStart => exact ⟨0, 0, by omega, rfl, by go_num, Nat.le_refl _, ⟨fun _ j hj h => by omega⟩, bl0⟩
  case round =>
    obtain ⟨i, n, hi, rfl, rfl, hni, hno, hbr⟩ := hrel
    by_cases ci : i < l.length
    · obtain ⟨ad, A3, c3, t, hA, ht, e0, e1, e2, e3, l3, g3⟩ := el44 (Kd.C_below H.out hbr) i ci
      subst hA
      have hbt := HBY.out t (by rw [← ht.out]; exact List.getElem_mem ci)
      go_wp2_with fail
      refine (ref05_Right.calls t A3 c3 wr g3 hbt).mono ?_; rintro _ w2 ⟨⟨b, rfl, hb⟩, hb2⟩
      have hb3 := below_step hbr hb2
      have HB := Aside0.mk hb
      clear g3 hbt hb e0 e1 e2 e3
      cases b
      · go_wp2
        go_roundg (l.length - i - 1)
        case measure => omega
        case rel => exact ⟨i + 1, n, by omega, rfl, by go_num, by omega, ⟨fun h => by omega⟩, hb3⟩
      · have hno2 := Aside0.mk (show n + 1 = i + 1 → ∀ j (hj : j < l.length), j < i + 1 → ownP l[j] from fun he j hj hji => by
          by_cases h : j < i
          · exact hno.out (by omega) j hj h
          · have : j = i := by omega
            subst this; rw [ht.out]; exact HB.out rfl)
        go_wp2
        go_roundg (l.length - i - 1)
        case measure => omega
        case rel => exact ⟨i + 1, n + 1, by omega, by go_num, by go_num, by omega, hno2, hb3⟩
    · by_cases cn : n = l.length
      · have HALL := Aside0.mk (show ∀ t ∈ l, ownP t from fun t ht => by obtain ⟨j, hj, rfl⟩ := List.getElem_of_mem ht; exact hno.out (by omega) j hj (by omega))
        go_wp2
        all_goals (go_ret; first | exact ⟨bo (fun _ => HALL.out), hbr⟩ | exact ⟨bo HALL.out, hbr⟩ | exact ⟨bo (fun h => by simp at h), hbr⟩)
      · go_wp2
        all_goals (go_ret; exact ⟨bo (fun h => by simp at h), hbr⟩)
theorem law05_Great.calls (A : Option Addr) (c : Nat) (l : List S44) (w : World) (h : Kd.C k44 w A l.length l) : RetW 42 #[.slice A l.length c] w (fun _ => True) := by
  have H := Aside0.mk h
  have hl := h.2.1
  have hu := Tryz.underlying44
  clear h
  go_enter Tryz.func42, Tryz.ntmps42
  go_wp2
  go_loopg [3] l.length (fun k v3 wr => ∃ i : Nat, i + k = l.length ∧ v3 = .int .i64 i ∧ w = wr)
  case atStart => exact ⟨0, by omega, by go_num, rfl⟩
  case round =>
    obtain ⟨i, hi, rfl, rfl⟩ := hrel
    by_cases ci : i < l.length
    · obtain ⟨ad, A3, c3, t, hA, ht, e0, e1, e2, e3, l3, g3⟩ := el44 H.out i ci
      subst hA
      have hlt := g3.2.1
      by_cases cs : 20 < t.f3.length
      · go_wp2
        go_ret
        exact ⟨bo trivial, bl0⟩
      · go_wp2
        go_roundg (l.length - i - 1)
        case measure => omega
        case rel => exact ⟨i + 1, by omega, by go_num, rfl⟩
    · go_wp2
      go_ret
      exact ⟨bo trivial, bl0⟩
theorem law19_Great.calls (A1 A2 : Option Addr) (c1 c2 : Nat) (ps : List S87) (qs : List S91) (w : World) (hP : Kd.C k87 w A1 ps.length ps) (hq : qs.length ≤ 1000) : RetW 22 #[.agg #[.slice A1 ps.length c1, .slice A2 qs.length c2]] w (fun _ => True) := by
  have H := Aside0.mk hP
  have hl := hP.2.1
  have hu := Tryz.underlying53
  have hu2 := Tryz.underlying87
  clear hP
  have hX0 := blk_new w (.cells #[.slice A1 ps.length c1, .slice A2 qs.length c2] 53)
  go_enter Tryz.func22, Tryz.ntmps22
  go_wp2
  go_loopg [3] ps.length (fun k v3 wr => ∃ i : Nat, i + k = ps.length ∧ v3 = .int .i64 i ∧ wr.heap[w.heap.size]? = some (.cells #[.slice A1 ps.length c1, .slice A2 qs.length c2] 53 (0, 0)) ∧ Below w.heap.size w wr)
  case atStart => exact ⟨0, by omega, by go_num, hX0, bl1⟩
  case round =>
    clear hX0
    obtain ⟨i, hi, rfl, hX, hbr⟩ := hrel
    obtain ⟨x0, x1⟩ := bx2 hX
    by_cases ci : i < ps.length
    · obtain ⟨ad, B, d, p, hA, hp, e0, e1, e2, l2, g2⟩ := el87 (Kd.C_below H.out hbr) i ci
      subst hA
      go_wp2_with fail
      refine (law05_Great.calls B d p.f1 wr g2).mono ?_; rintro _ w2 ⟨⟨b, rfl, -⟩, hb2⟩
      have hb3 := below_step hbr hb2
      have hX2 := blk_below hX hb2
      cases b
      · go_wp2
        go_roundg (ps.length - i - 1)
        case measure => omega
        case rel => exact ⟨i + 1, by omega, by go_num, hX2, hb3⟩
      · go_wp2
        go_ret
        exact ⟨bo trivial, hb3⟩
    · go_wp2
      all_goals (go_ret; exact ⟨bo trivial, hbr⟩)
def ref19_Right.T11 : Bool × List (List Nat × List Nat) := (true, [([], []), ([0], [0]), ([], []), ([1, 2], [1, 2]), ([3], [3]), ([4], [4]), ([], []), ([6], [6]), ([7], [7]), ([5, 8], [5, 8]), ([9], [9]), ([10], [10]), ([11, 10], [10, 11]), ([10], [10]), ([12, 13, 10], [10, 12, 13]), ([14, 10], [10, 14]), ([15, 10], [10, 15]), ([10], [10]), ([17, 10], [10, 17]), ([18, 10], [10, 18]), ([16, 19, 10], [10, 16, 19]), ([10, 20], [10, 20])])
def ref19_Right.B11 : List Nat := [0, 1, 0, 7, 15, 31, 0, 64, 192, 511, 1023, 2047, 4095, 2047, 16383, 32767, 65535, 2047, 133119, 395263, 1048575, 2097151]
theorem ref19_Right.tab11 : rtab .any (opsOf Tryz.f21 11) = ref19_Right.T11 := by kernel_rfl
theorem ref19_Right.bits11 : waitsOk ref19_Right.T11.2 ref19_Right.B11 = true := by kernel_rfl
def law21_Great.T6 : Bool × List (List Nat × List Nat) := (true, [([], []), ([0], [0]), ([], []), ([1, 2], [1, 2]), ([3], [3]), ([4], [4]), ([], []), ([6], [6]), ([], []), ([7, 8], [7, 8]), ([9], [9]), ([10], [10]), ([5, 11], [5, 11]), ([12], [12]), ([13], [13]), ([13], [13]), ([13], [13]), ([14, 12, 0, 1, 2, 3, 4, 5, 6, 7, 8, 9, 10, 11, 12, 13, 14], [14]), ([15, 17, 0, 1, 2, 3, 4, 5, 6, 7, 8, 9, 10, 11, 12, 13, 14, 15, 17], [15]), ([16, 18, 0, 1, 2, 3, 4, 5, 6, 7, 8, 9, 10, 11, 12, 13, 14, 15, 16, 17, 18], [16])])
def law21_Great.B6 : List Nat := [0, 1, 0, 7, 15, 31, 0, 64, 0, 448, 960, 1984, 4095, 8191, 16383, 16383, 16383, 32767, 196607, 524287]
theorem law21_Great.tab6 : rtab .any (opsOf Tryz.f12 6) = law21_Great.T6 := by kernel_rfl
theorem law21_Great.bits6 : waitsOk law21_Great.T6.2 law21_Great.B6 = true := by kernel_rfl
def bytP (p : S87) : Prop := ∀ t ∈ p.f1, ∀ s ∈ t.f3, bytS s
theorem ref19_Right.calls (A1 A2 : Option Addr) (c1 c2 : Nat) (ps : List S87) (qs : List S91) (w : World) (hP : Kd.C k87 w A1 ps.length ps) (hQ : Kd.C k91 w A2 qs.length qs) (hby : ∀ p ∈ ps, bytP p) (hpl : ps.length ≤ 1000) (hql : qs.length ≤ 1000) : RetW 21 #[.agg #[.slice A1 ps.length c1, .slice A2 qs.length c2]] w (fun _ => True) := by
  have HP := Aside0.mk hP
  have HQ := Aside0.mk hQ
  have HBY := Aside0.mk hby
  have hu := Tryz.underlying53
  have hu2 := Tryz.underlying87
  have hu3 := Tryz.underlying91
  have hu4 := Tryz.underlying85
  clear hP hQ hby
  have hX0 := blk_new w (.cells #[.slice A1 ps.length c1, .slice A2 qs.length c2] 53)
  go_enter Tryz.func21, Tryz.ntmps21
  by_cases c4 : 4 < ps.length
  · go_wp2
    go_ret
    exact ⟨bo trivial, bl1⟩
  obtain ⟨x0, x1⟩ := bx2 hX0
  go_wp2_with fail
  refine (ref18_All.calls A2 c2 qs _ (C_alloc HQ.out _)).mono ?_; rintro _ w2 ⟨⟨b, rfl, -⟩, hb2⟩
  have hX2 := blk_below hX0 hb2
  have hbA := below_step bl1 hb2
  clear hX0 x0 x1 hb2
  cases b
  · go_wp2
    go_ret
    exact ⟨bo trivial, hbA⟩
  obtain ⟨x0, x1⟩ := bx2 hX2
  go_wp2
  clear x0 x1
  go_loopg [3] ps.length (fun k v3 wr => ∃ i : Nat, i + k = ps.length ∧ v3 = .int .i64 i ∧ wr.heap[w.heap.size]? = some (.cells #[.slice A1 ps.length c1, .slice A2 qs.length c2] 53 (0, 0)) ∧ Below w.heap.size w wr)
  case atStart => exact ⟨0, by omega, by go_num, hX2, hbA⟩
  case round =>
    clear hX2 hbA
    obtain ⟨i, hi, rfl, hX, hbr⟩ := hrel
    obtain ⟨x0, x1⟩ := bx2 hX
    by_cases ci : i < ps.length
    · obtain ⟨ad, B, d, p, hA, hp, e0, e1, e2, l2, g2⟩ := el87 (Kd.C_below HP.out hbr) i ci
      subst hA
      have hbp := HBY.out p (by rw [← hp.out]; exact List.getElem_mem ci)
      have HG2 := Aside0.mk g2
      have HBP := Aside0.mk hbp
      clear g2 hbp
      go_wp2_with fail
      refine (ref09_Right.calls p.f0 wr).mono ?_; rintro _ w3 ⟨⟨b, rfl, -⟩, hb3⟩
      have hX3 := blk_below hX hb3
      have hbB := below_step hbr hb3
      cases b
      · go_wp2
        go_ret
        exact ⟨bo trivial, hbB⟩
      have e2' := be_cell hb3 e2
      clear x0 x1
      obtain ⟨x0, x1⟩ := bx2 hX3
      go_wp2_with fail
      refine (ref05_All.calls B d p.f1 w3 (Kd.C_below HG2.out hb3) HBP.out).mono ?_; rintro _ w4 ⟨⟨b, rfl, -⟩, hb4⟩
      have hX4 := blk_below hX3 hb4
      have hbC := below_step hbB hb4
      cases b
      · go_wp2
        go_ret
        exact ⟨bo trivial, hbC⟩
      go_wp2
      go_roundg (ps.length - i - 1)
      case measure => omega
      case rel => exact ⟨i + 1, by omega, by go_num, hX4, hbC⟩
    · go_wp2
      clear x0 x1
      go_loopg [4] qs.length (fun k v4 wr => ∃ j : Nat, j + k = qs.length ∧ v4 = .int .i64 j ∧ wr.heap[w.heap.size]? = some (.cells #[.slice A1 ps.length c1, .slice A2 qs.length c2] 53 (0, 0)) ∧ Below w.heap.size w wr)
      case atStart => exact ⟨0, by omega, by go_num, hX, hbr⟩
      case round =>
        clear hX hbr
        obtain ⟨j, hj, rfl, hX, hbr⟩ := hrel
        obtain ⟨x0, x1⟩ := bx2 hX
        by_cases cj : j < qs.length
        · obtain ⟨ad, q, hA, hq, e0, e1, e2⟩ := el91 (Kd.C_below HQ.out hbr) j cj
          subst hA
          by_cases cq : (ps.length : Int) ≤ q.f0
          · have cq2 : decide ((ps.length : Int) ≤ q.f0) = true := decide_eq_true cq
            go_wp2_with fail
            refine st_ 22 (fun w' => w'.cell? (⟨w.heap.size, 0, none⟩) = some (.slice A1 ps.length c1) ∧ w'.cell? (⟨w.heap.size, 1, none⟩) = some (.slice (some ad) qs.length c2) ∧ w'.cell? (ad.add (j * 3)) = some (.int .i64 q.f0) ∧ w'.cell? (⟨(ad.add (j * 3)).block, (ad.add (j * 3)).off + 1, none⟩) = some (.int .i64 q.f1) ∧ Below w.heap.size w w') [] ref19_Right.tab11 ref19_Right.bits11 ⟨x0, x1, e0, e1, below_drew1 hbr⟩ (h := fun HT HW hHeld => ?_)
            repeat (first | refine pn_ HT (h := ?_) | refine tn_ HT HW hHeld (h := ?_) | refine zn_ HT (h := ?_))
            refine dn_ HT (h := ?_)
            have hXd := hX
            clear HT HW
            go_wp2
            go_ret
            exact ⟨bo trivial, (hHeld.2.2.2.2)⟩
          · have cq2 : decide ((ps.length : Int) ≤ q.f0) = false := decide_eq_false cq
            by_cases cr : (ps.length : Int) ≤ q.f1
            · go_wp2_with fail
              refine st_ 22 (fun w' => w'.cell? (⟨w.heap.size, 0, none⟩) = some (.slice A1 ps.length c1) ∧ w'.cell? (⟨w.heap.size, 1, none⟩) = some (.slice (some ad) qs.length c2) ∧ w'.cell? (ad.add (j * 3)) = some (.int .i64 q.f0) ∧ w'.cell? (⟨(ad.add (j * 3)).block, (ad.add (j * 3)).off + 1, none⟩) = some (.int .i64 q.f1) ∧ Below w.heap.size w w') [] ref19_Right.tab11 ref19_Right.bits11 ⟨x0, x1, e0, e1, below_drew1 hbr⟩ (h := fun HT HW hHeld => ?_)
              repeat (first | refine pn_ HT (h := ?_) | refine tn_ HT HW hHeld (h := ?_) | refine zn_ HT (h := ?_))
              refine dn_ HT (h := ?_)
              have hXd := hX
              clear HT HW
              go_wp2
              go_ret
              exact ⟨bo trivial, (hHeld.2.2.2.2)⟩
            · go_wp2_with fail
              refine st_ 22 (fun w' => w'.cell? (⟨w.heap.size, 0, none⟩) = some (.slice A1 ps.length c1) ∧ w'.cell? (⟨w.heap.size, 1, none⟩) = some (.slice (some ad) qs.length c2) ∧ w'.cell? (ad.add (j * 3)) = some (.int .i64 q.f0) ∧ w'.cell? (⟨(ad.add (j * 3)).block, (ad.add (j * 3)).off + 1, none⟩) = some (.int .i64 q.f1) ∧ Below w.heap.size w w') [] ref19_Right.tab11 ref19_Right.bits11 ⟨x0, x1, e0, e1, below_drew1 hbr⟩ (h := fun HT HW hHeld => ?_)
              repeat (first | refine pn_ HT (h := ?_) | refine tn_ HT HW hHeld (h := ?_) | refine zn_ HT (h := ?_))
              refine dn_ HT (h := ?_)
              have hXd := hX
              clear HT HW
              go_wp2
              go_roundg (qs.length - j - 1)
              case measure => omega
              case rel => exact ⟨j + 1, by omega, by go_num, hXd, (hHeld.2.2.2.2)⟩
        · go_wp2
          go_ret
          exact ⟨bo trivial, hbr⟩
def TripOut (e : Ending) : Prop := ∃ a b c : Int, e = .returned (.tuple #[.int .i64 a, .int .i64 b, .int .i64 c])
theorem trip {a b c : Int} : TripOut (.returned (.tuple #[.int .i64 a, .int .i64 b, .int .i64 c])) := ⟨a, b, c, rfl⟩
theorem ref10_Cycle.calls (A : Option Addr) (c : Nat) (l : List S44) (f : S85) (w : World) (h : Kd.C k44 w A l.length l) (hby : ∀ t ∈ l, ∀ s ∈ t.f3, bytS s) :
    Calls Tryz.prog 23 #[.slice A l.length c, vF f] w fun e w' => TripOut e ∧ Below w.heap.size w w' := by
  have H := Aside0.mk h
  have HBY := Aside0.mk hby
  have hl := h.2.1
  have hu := Tryz.underlying85
  have hu2 := Tryz.underlying44
  clear h hby
  have hX0 := blk_new w (.cells #[.int .i64 f.f0, .int .i64 f.f1] 85)
  have hb0 := @bl1 w (.cells #[.int .i64 f.f0, .int .i64 f.f1] 85)
  go_enter Tryz.func23, Tryz.ntmps23
  go_wp2_with fail
  refine (ref05_All.calls A c l _ (C_alloc H.out _) HBY.out).mono ?_; rintro _ w2 ⟨⟨b, rfl, hb⟩, hb2⟩
  have hX2 := blk_below hX0 hb2
  have hbA := below_step hb0 hb2
  have HB := Aside0.mk hb
  clear hX0 hb0 hb2 hb
  cases b
  · go_wp2
    (try simp only [Exit.inBlock, Exit.then])
    refine bodyPost_ret (results_list (rs := [.tmp 4, .tmp 5, .tmp 6]) rfl (by simp) (.tmp (.tmp (.tmp .nil)))) rfl ?_
    exact ⟨trip, hbA⟩
  have HOW := Aside0.mk (HB.out rfl)
  obtain ⟨x0, x1⟩ := bx2 hX2
  go_wp2_with fail
  refine (ref09_Right.calls f w2).mono ?_; rintro _ w3 ⟨⟨b, rfl, hb⟩, hb3⟩
  have hX3 := blk_below hX2 hb3
  have hbB := below_step hbA hb3
  clear hX2 hbA hb3 x0 x1
  cases b
  · go_wp2
    (try simp only [Exit.inBlock, Exit.then])
    refine bodyPost_ret (results_list (rs := [.tmp 4, .tmp 5, .tmp 6]) rfl (by simp) (.tmp (.tmp (.tmp .nil)))) rfl ?_
    exact ⟨trip, hbB⟩
  obtain ⟨f1, f2⟩ := hb rfl
  obtain ⟨x0, x1⟩ := bx2 hX3
  clear hb
  go_wp2
  clear x0 x1
  go_loopg [7, 8] l.length (fun k v7 v8 wr => ∃ (i : Nat) (far : Int), i + k = l.length ∧ v7 = .int .i64 far ∧ v8 = .int .i64 i ∧ 0 ≤ far ∧ far ≤ 400 ∧ w3 = wr)
  case atStart => exact ⟨0, _, by omega, rfl, by go_num, by omega, by omega, rfl⟩
  case round =>
    obtain ⟨i, far, hi, rfl, rfl, h0, h1, rfl⟩ := hrel
    have HC3 := Aside0.mk (Kd.C_below H.out hbB)
    obtain ⟨x0, x1⟩ := bx2 hX3
    by_cases ci : i < l.length
    · obtain ⟨ad, A3, c3, t, hA, ht, e0, e1, e2, e3, l3, g3⟩ := el44 HC3.out i ci
      subst hA
      have hot := HOW.out t (by rw [← ht.out]; exact List.getElem_mem ci)
      obtain ⟨o1, o2, o3, o4⟩ := hot
      by_cases cf : far < t.f1
      · go_wp2
        go_roundg (l.length - i - 1)
        case measure => omega
        case rel => exact ⟨i + 1, t.f1, by omega, rfl, by go_num, by omega, by omega, rfl⟩
      · go_wp2
        go_roundg (l.length - i - 1)
        case measure => omega
        case rel => exact ⟨i + 1, far, by omega, rfl, by go_num, by omega, by omega, rfl⟩
    · go_wp2
      go_loopg [9] (4000 - f.f0).toNat (fun k v9 wr => ∃ n : Int, v9 = .int .i64 n ∧ 1 ≤ n ∧ n ≤ 3300 ∧ (4000 - n).toNat = k ∧ w3 = wr)
      case atStart => exact ⟨f.f0, rfl, by omega, by omega, rfl, rfl⟩
      case round =>
        obtain ⟨n, rfl, n1, n2, hk, rfl⟩ := hrel
        by_cases cn : n + far ≤ 3000
        · go_wp2
          go_loopg [10, 11] l.length (fun k v10 v11 wr => ∃ (j : Nat) (bb : Bool), j + k = l.length ∧ v10 = .bool bb ∧ v11 = .int .i64 j ∧ w3 = wr)
          case atStart => exact ⟨0, true, by omega, rfl, by go_num, rfl⟩
          case round =>
            obtain ⟨j, bb, hj, rfl, rfl, rfl⟩ := hrel
            by_cases cj : j < l.length
            · obtain ⟨ad, A3, c3, t, hA, ht, e0, e1, e2, e3, l3, g3⟩ := el44 HC3.out j cj
              subst hA
              obtain ⟨o1, o2, o3, o4⟩ := HOW.out t (by rw [← ht.out]; exact List.getElem_mem cj)
              cases bb
              · go_wp2
                go_roundg (l.length - j - 1)
                case measure => omega
                case rel => exact ⟨j + 1, _, by omega, rfl, by go_num, rfl⟩
              · go_wp2
                go_roundg (l.length - j - 1)
                case measure => omega
                case rel => exact ⟨j + 1, _, by omega, rfl, by go_num, rfl⟩
            · cases bb
              · go_wp2
                go_roundg (4000 - (n + f.f0)).toNat
                case measure => omega
                case rel => exact ⟨n + f.f0, by go_num, by omega, by omega, rfl, rfl⟩
              · go_wp2
                (try simp only [Exit.inBlock, Exit.then])
                refine bodyPost_ret (results_list (rs := [.tmp 4, .tmp 5, .tmp 6]) rfl (by simp) (.tmp (.tmp (.tmp .nil)))) rfl ?_
                exact ⟨trip, hbB⟩
        · go_wp2
          (try simp only [Exit.inBlock, Exit.then])
          refine bodyPost_ret (results_list (rs := [.tmp 4, .tmp 5, .tmp 6]) rfl (by simp) (.tmp (.tmp (.tmp .nil)))) rfl ?_
          exact ⟨trip, hbB⟩
theorem law21_Great.calls (A1 A2 : Option Addr) (c1 c2 : Nat) (ps : List S87) (qs : List S91) (w : World) (hP : Kd.C k87 w A1 ps.length ps) (hql : qs.length ≤ 1000) (hby : ∀ p ∈ ps, bytP p) : RetW 12 #[.agg #[.slice A1 ps.length c1, .slice A2 qs.length c2]] w (fun _ => True) := by
  have HP := Aside0.mk hP
  have HBY := Aside0.mk hby
  have hl := hP.2.1
  have hu := Tryz.underlying53
  have hu2 := Tryz.underlying87
  have hu4 := Tryz.underlying85
  clear hP hby
  have hX0 := blk_new w (.cells #[.slice A1 ps.length c1, .slice A2 qs.length c2] 53)
  go_enter Tryz.func12, Tryz.ntmps12
  go_wp2_with fail
  refine (law19_Great.calls A1 A2 c1 c2 ps qs _ (C_alloc HP.out _) hql).mono ?_; rintro _ w2 ⟨⟨b, rfl, -⟩, hb2⟩
  have hX2 := blk_below hX0 hb2
  have hbA := below_step bl1 hb2
  clear hX0 hb2
  cases b
  · go_wp2
    go_loopg [3] ps.length (fun k v3 wr => ∃ i : Nat, i + k = ps.length ∧ v3 = .int .i64 i ∧ wr.heap[w.heap.size]? = some (.cells #[.slice A1 ps.length c1, .slice A2 qs.length c2] 53 (0, 0)) ∧ Below w.heap.size w wr)
    case atStart => exact ⟨0, by omega, by go_num, hX2, hbA⟩
    case round =>
      clear hX2 hbA
      obtain ⟨i, hi, rfl, hX, hbr⟩ := hrel
      obtain ⟨x0, x1⟩ := bx2 hX
      by_cases ci : i < ps.length
      · obtain ⟨ad, B, d, p, hA, hp, e0, e1, e2, l2, g2⟩ := el87 (Kd.C_below HP.out hbr) i ci
        subst hA
        have HG2 := Aside0.mk g2
        have HBP := Aside0.mk (HBY.out p (by rw [← hp.out]; exact List.getElem_mem ci))
        clear g2
        go_wp2_with fail
        refine st_ 20 (fun w' => w'.cell? (⟨w.heap.size, 0, none⟩) = some (.slice (some ad) ps.length c1) ∧ w'.cell? (ad.add (i * 3)) = some (.int .i64 p.f0.f0) ∧ w'.cell? (⟨(ad.add (i * 3)).block, (ad.add (i * 3)).off + 1, none⟩) = some (.int .i64 p.f0.f1) ∧ w'.cell? (⟨(ad.add (i * 3)).block, (ad.add (i * 3)).off + 2, none⟩) = some (.slice B p.f1.length d) ∧ Below w.heap.size w w') [] law21_Great.tab6 law21_Great.bits6 ⟨x0, e0, e1, e2, below_drew1 hbr⟩ (h := fun HT HW hHeld => ?_)
        repeat (first | refine pn_ HT (h := ?_) | refine tn_ HT HW hHeld (h := ?_) | refine zn_ HT (h := ?_))
        refine on_ HT (h := fun K hK => ?_)
        refine cn_ (Calls.mono (ref10_Cycle.calls B d p.f1 p.f0 _ (Kd.C_drew HG2.out) HBP.out) (fun e w' ⟨⟨a, b, c, he⟩, h⟩ => ⟨_, he, ⟨a, b, c, rfl⟩, h⟩)) (R := fun v w' => (∃ a b c : Int, v = .tuple #[.int .i64 a, .int .i64 b, .int .i64 c]) ∧ Below wr.drew.heap.size wr.drew w') (h := fun v3' w3 hv3 => ?_)
        obtain ⟨⟨ra, rb_, rc, rfl⟩, hb3⟩ := hv3
        refine hK.out _ _ ⟨be_cell hb3 (hHeld.1), be_cell hb3 (hHeld.2.1), be_cell hb3 (hHeld.2.2.1), be_cell hb3 (hHeld.2.2.2.1), below_step (hHeld.2.2.2.2) hb3⟩ (fun hHeld => ?_)
        refine nm_ (h := ?_)
        repeat (first | refine pn_ HT (h := ?_) | refine tn_ HT HW hHeld (h := ?_) | refine zn_ HT (h := ?_))
        refine dn_ HT (h := ?_)
        have hX3 := blk_below (show wr.drew.heap[w.heap.size]? = _ from hX) hb3
        clear HT HW hK K
        by_cases cb : 200 < rb_
        · go_wp2
          go_ret
          exact ⟨bo trivial, (hHeld.2.2.2.2)⟩
        · go_wp2
          go_roundg (ps.length - i - 1)
          case measure => omega
          case rel => exact ⟨i + 1, by omega, by go_num, hX3, (hHeld.2.2.2.2)⟩
      · go_wp2
        go_ret
        exact ⟨bo trivial, hbr⟩
  · go_wp2
    go_ret
    exact ⟨bo trivial, hbA⟩
end Go.Proofs.YtmngaagojkihbaaGreat.FTop
