-- Written by the session (wip/tools) for this claim: functions of the program as Lean functions, and their contracts.
import Derived.Test.YteddflcloeelhaaZXShort
import Derived.Test.YteddflcloeelhaaZFPortx0
import Derived.Test.YteddflcloeelhaaZFPortx3
import Derived.Test.YteddflcloeelhaaZFPortx4
import Derived.Test.YteddflcloeelhaaZFPortx5
import Derived.Test.YteddflcloeelhaaZFPortx7
import Derived.Test.YteddflcloeelhaaZFPortx9
import Derived.Test.YteddflcloeelhaaZFPortx10
import Derived.Test.YteddflcloeelhaaZFPortx11
import Derived.Test.YteddflcloeelhaaZFPortx12
import Derived.Test.YteddflcloeelhaaZFPortx13
namespace Go.Proofs.Yteddflcloeelhaa.FPort
open Go.RowKit Go.Proofs.YteddflcloeelhaaW.PrintWords Go.Proofs.YteddflcloeelhaaW.PrintLast Go.Proofs.YteddflcloeelhaaW.PrintMore
attribute [local go_sem] max2_int min2_int max_two min_two max_three min_three max_four min_four   -- for this text's walks alone
set_option linter.unusedVariables false
set_option linter.unusedSimpArgs false

/-! ### remontoirlaw18_PortSends: function 9 -/
mutual
def remontoirlaw18_PortSends.j0 : Nat → List (S76) → Int → List (S76) → List (S76) → List (S63) → Int → Int → Bool → Int → Int → Int → List Int → List Int → Int → Int → Int → List Int → List Int → Option (Bool)
 | 0, _, _, _, _, _, _, _, _, _, _, _, _, _, _, _, _, _, _ => none
 | k + 1, x0, x2, x9, x12, x14, x16, x19, x105, x440000, x440001, x440002, x440003, x440004, x452000, x452001, x452002, x452003, x452004 => if x105 = true then (some false) else (if x16 = 0 then (if x19 = 0 then (remontoirlaw18_PortSends.j1 k x2 x9 x12 x14 x16 x19 false x440000 x440001 x440002 x440003 x440004 x452000 x452001 x452002 x452003 x452004) else ((remontoirlaw18_stays.f k x12 x0).bind fun t454 => (remontoirlaw18_PortSends.j1 k x2 x9 x12 x14 x16 x19 (!t454) x440000 x440001 x440002 x440003 x440004 x452000 x452001 x452002 x452003 x452004))) else ((remontoirlaw18_stays.f k x9 x0).bind fun t455 => (if t455 = true then (if x19 = 0 then (remontoirlaw18_PortSends.j1 k x2 x9 x12 x14 x16 x19 false x440000 x440001 x440002 x440003 x440004 x452000 x452001 x452002 x452003 x452004) else ((remontoirlaw18_stays.f k x12 x0).bind fun t456 => (remontoirlaw18_PortSends.j1 k x2 x9 x12 x14 x16 x19 (!t456) x440000 x440001 x440002 x440003 x440004 x452000 x452001 x452002 x452003 x452004))) else (remontoirlaw18_PortSends.j1 k x2 x9 x12 x14 x16 x19 true x440000 x440001 x440002 x440003 x440004 x452000 x452001 x452002 x452003 x452004))))
def remontoirlaw18_PortSends.j1 : Nat → Int → List (S76) → List (S76) → List (S63) → Int → Int → Bool → Int → Int → Int → List Int → List Int → Int → Int → Int → List Int → List Int → Option (Bool)
 | 0, _, _, _, _, _, _, _, _, _, _, _, _, _, _, _, _, _ => none
 | k + 1, x2, x9, x12, x14, x16, x19, x123, x440000, x440001, x440002, x440003, x440004, x452000, x452001, x452002, x452003, x452004 => if x123 = true then (some false) else (if x16 = 0 then ((remontoirlaw18_As.f k x9).bind fun t457 => ((remontoirref18_With.f x14 x2 x440000 x440001 x440002 x440003 x440004).bind fun t460 => ((remontoirlaw18_Same.f k t457 t460).bind fun t463 => (if t463 = true then (if x19 = 0 then ((remontoirlaw18_As.f k x12).bind fun t464 => ((remontoirref18_With.f x14 x2 x452000 x452001 x452002 x452003 x452004).bind fun t467 => ((remontoirlaw18_Same.f k t464 t467).bind fun t470 => (if t470 = true then ((remontoirlaw18_knows.f k).bind fun t471 => (some t471)) else (some false))))) else ((remontoirlaw18_knows.f k).bind fun t472 => (some t472))) else (some false))))) else (if x19 = 0 then ((remontoirlaw18_As.f k x12).bind fun t473 => ((remontoirref18_With.f x14 x2 x452000 x452001 x452002 x452003 x452004).bind fun t476 => ((remontoirlaw18_Same.f k t473 t476).bind fun t479 => (if t479 = true then ((remontoirlaw18_knows.f k).bind fun t480 => (some t480)) else (some false))))) else ((remontoirlaw18_knows.f k).bind fun t481 => (some t481))))
end
def remontoirlaw18_PortSends.f (k : Nat) (l0 : List (S76)) (a1 : Int) (a2 : Int) (a3 : Int) : Option (Bool) := (remontoirlaw18_great.f k l0).bind fun t411 => (if t411 = true then ((remontoirlaw18_knows.f k).bind fun t412 => (some t412)) else ((port_Send.f k l0 a1 a2 a3).bind fun bt413 => ((port_Read.f k l0 a1 a2).bind fun bt417 => ((remontoirlaw18_right.f k l0).bind fun t422 => (if t422 = true then ((remontoirlaw18_As.f k l0).bind fun t426 => ((remontoirref18_Send.f k t426 a1 a2 a3).bind fun bt429 => ((remontoirref18_Read.f k t426 a1 a2).bind fun bt440 => (if bt413.2 = bt429.2.2.2.2.2 then (if bt417.2.2 = bt440.2.2.2.2.2.2 then (if bt417.1 = bt440.1 then ((remontoirlaw18_right.f k bt413.1).bind fun t452 => (if t452 = true then ((remontoirlaw18_right.f k bt417.2.1).bind fun t453 => (remontoirlaw18_PortSends.j0 k l0 a2 bt413.1 bt417.2.1 t426 bt429.2.2.2.2.2 bt440.2.2.2.2.2.2 (!t453) bt429.1 bt429.2.1 bt429.2.2.1 bt429.2.2.2.1 bt429.2.2.2.2.1 bt440.2.1 bt440.2.2.1 bt440.2.2.2.1 bt440.2.2.2.2.1 bt440.2.2.2.2.2.1)) else (remontoirlaw18_PortSends.j0 k l0 a2 bt413.1 bt417.2.1 t426 bt429.2.2.2.2.2 bt440.2.2.2.2.2.2 true bt429.1 bt429.2.1 bt429.2.2.1 bt429.2.2.2.1 bt429.2.2.2.2.1 bt440.2.1 bt440.2.2.1 bt440.2.2.2.1 bt440.2.2.2.2.1 bt440.2.2.2.2.2.1))) else (remontoirlaw18_PortSends.j0 k l0 a2 bt413.1 bt417.2.1 t426 bt429.2.2.2.2.2 bt440.2.2.2.2.2.2 true bt429.1 bt429.2.1 bt429.2.2.1 bt429.2.2.2.1 bt429.2.2.2.2.1 bt440.2.1 bt440.2.2.1 bt440.2.2.2.1 bt440.2.2.2.2.1 bt440.2.2.2.2.2.1)) else (remontoirlaw18_PortSends.j0 k l0 a2 bt413.1 bt417.2.1 t426 bt429.2.2.2.2.2 bt440.2.2.2.2.2.2 true bt429.1 bt429.2.1 bt429.2.2.1 bt429.2.2.2.1 bt429.2.2.2.2.1 bt440.2.1 bt440.2.2.1 bt440.2.2.2.1 bt440.2.2.2.2.1 bt440.2.2.2.2.2.1)) else (remontoirlaw18_PortSends.j0 k l0 a2 bt413.1 bt417.2.1 t426 bt429.2.2.2.2.2 bt440.2.2.2.2.2.2 true bt429.1 bt429.2.1 bt429.2.2.1 bt429.2.2.2.1 bt429.2.2.2.2.1 bt440.2.1 bt440.2.2.1 bt440.2.2.2.1 bt440.2.2.2.2.1 bt440.2.2.2.2.2.1))))) else ((remontoirlaw18_stays.f k bt413.1 l0).bind fun t423 => (if t423 = true then (if bt413.2 = 1 then (if bt417.1 = 0 then ((remontoirlaw18_stays.f k bt417.2.1 l0).bind fun t424 => (if t424 = true then (if bt417.2.2 = 1 then ((remontoirlaw18_knows.f k).bind fun t425 => (some t425)) else (some false)) else (some false))) else (some false)) else (some false)) else (some false))))))))
theorem remontoirlaw18_PortSends.mono_l : ∀ k, (∀ y0 y1 y2 y3 y4 y5 y6 y7 y8 y9 y10 y11 y12 y13 y14 y15 y16 y17, LeO (remontoirlaw18_PortSends.j0 k y0 y1 y2 y3 y4 y5 y6 y7 y8 y9 y10 y11 y12 y13 y14 y15 y16 y17) (remontoirlaw18_PortSends.j0 (k + 1) y0 y1 y2 y3 y4 y5 y6 y7 y8 y9 y10 y11 y12 y13 y14 y15 y16 y17)) ∧ (∀ y0 y1 y2 y3 y4 y5 y6 y7 y8 y9 y10 y11 y12 y13 y14 y15 y16, LeO (remontoirlaw18_PortSends.j1 k y0 y1 y2 y3 y4 y5 y6 y7 y8 y9 y10 y11 y12 y13 y14 y15 y16) (remontoirlaw18_PortSends.j1 (k + 1) y0 y1 y2 y3 y4 y5 y6 y7 y8 y9 y10 y11 y12 y13 y14 y15 y16))
 | 0 => ⟨fun _ _ _ _ _ _ _ _ _ _ _ _ _ _ _ _ _ _ r h => by simp [remontoirlaw18_PortSends.j0] at h, fun _ _ _ _ _ _ _ _ _ _ _ _ _ _ _ _ _ r h => by simp [remontoirlaw18_PortSends.j1] at h⟩
 | k + 1 => by
  obtain ⟨ih0, ih1⟩ := remontoirlaw18_PortSends.mono_l k
  refine ⟨?_, ?_⟩
  ·
   intro y0 y1 y2 y3 y4 y5 y6 y7 y8 y9 y10 y11 y12 y13 y14 y15 y16 y17
   unfold remontoirlaw18_PortSends.j0
   repeat' first | (with_reducible exact ih1 _ _ _ _ _ _ _ _ _ _ _ _ _ _ _ _ _) | (with_reducible exact remontoirlaw18_stays.mono _ _ _) | (with_reducible exact LeO.refl _) | (with_reducible refine LeO.ite ?_ ?_) | (with_reducible refine LeO.bind ?_ (fun _ => ?_))
  ·
   intro y0 y1 y2 y3 y4 y5 y6 y7 y8 y9 y10 y11 y12 y13 y14 y15 y16
   unfold remontoirlaw18_PortSends.j1
   repeat' first | (with_reducible exact remontoirlaw18_As.mono _ _) | (with_reducible exact remontoirlaw18_Same.mono _ _ _) | (with_reducible exact remontoirlaw18_knows.mono _) | (with_reducible exact LeO.refl _) | (with_reducible refine LeO.ite ?_ ?_) | (with_reducible refine LeO.bind ?_ (fun _ => ?_))
theorem remontoirlaw18_PortSends.mono : ∀ a0 a1 a2 a3 k, LeO (remontoirlaw18_PortSends.f k a0 a1 a2 a3) (remontoirlaw18_PortSends.f (k + 1) a0 a1 a2 a3) := by
 intro a0 a1 a2 a3 k
 obtain ⟨ih0, ih1⟩ := remontoirlaw18_PortSends.mono_l k
 unfold remontoirlaw18_PortSends.f
 repeat' first | (with_reducible exact ih0 _ _ _ _ _ _ _ _ _ _ _ _ _ _ _ _ _ _) | (with_reducible exact port_Read.mono _ _ _ _) | (with_reducible exact port_Send.mono _ _ _ _ _) | (with_reducible exact remontoirlaw18_As.mono _ _) | (with_reducible exact remontoirlaw18_great.mono _ _) | (with_reducible exact remontoirlaw18_knows.mono _) | (with_reducible exact remontoirlaw18_right.mono _ _) | (with_reducible exact remontoirlaw18_stays.mono _ _ _) | (with_reducible exact remontoirref18_Read.mono _ _ _ _) | (with_reducible exact remontoirref18_Send.mono _ _ _ _ _) | (with_reducible exact LeO.refl _) | (with_reducible refine LeO.ite ?_ ?_) | (with_reducible refine LeO.bind ?_ (fun _ => ?_))
def remontoirlaw18_PortSends.T14 : Bool × List (List Nat × List Nat) := (true, [([], []), ([0], [0]), ([1], [1]), ([2], [2]), ([3, 2, 2], [2, 3]), ([2], [2]), ([2], [2]), ([2], [2]), ([5, 6, 7, 4, 2], [2, 5, 6, 7]), ([4, 8, 8, 2], [2, 4, 8]), ([2, 9], [2, 9]), ([10, 9], [10]), ([11], [11]), ([12, 11], [11, 12]), ([13, 11, 11], [11, 13]), ([14], [14]), ([15, 14, 14], [14, 15]), ([14], [14]), ([14], [14]), ([14], [14]), ([17, 18, 19, 16, 14], [14, 17, 18, 19]), ([16, 20, 20, 14], [14, 16, 20]), ([14, 21, 11], [11, 14, 21]), ([11, 22], [11, 22]), ([23, 21], [23]), ([24, 24], [24]), ([24, 25], [24, 25]), ([26, 25, 0, 1, 2, 3, 4, 5, 6, 7, 8, 9, 10, 11, 12, 13, 14, 15, 16, 17, 18, 19, 20, 21, 22, 23, 24, 25, 26], [26])])
def remontoirlaw18_PortSends.B14 : List Nat := [0, 1, 3, 7, 15, 7, 7, 7, 255, 511, 1023, 2047, 4095, 8191, 16383, 32767, 65535, 32767, 32767, 32767, 1048575, 2097151, 4194303, 8388607, 16777215, 33554431, 67108863, 134217727]
theorem remontoirlaw18_PortSends.tab14 : rtab .any (opsOf Try.f9 14) = remontoirlaw18_PortSends.T14 := by kernel_rfl
theorem remontoirlaw18_PortSends.bits14 : waitsOk remontoirlaw18_PortSends.T14.2 remontoirlaw18_PortSends.B14 = true := by kernel_rfl
set_option maxHeartbeats 8000000 in
set_option maxRecDepth 100000 in
theorem remontoirlaw18_PortSends.calls (k : Nat) (A0 : Option Addr) (c0 : Nat) (l0 : List (S76)) (a1 : Int) (a2 : Int) (a3 : Int) (w : World) (hr0 : Kd.C k76 w A0 l0.length l0) (hc0 : l0.length ≤ c0) (h : remontoirlaw18_PortSends.f k l0 a1 a2 a3 = some true) :
  Calls Try.prog 9 #[.slice A0 l0.length c0, .int .i64 a1, .int .i64 a2, .int .i64 a3] w fun e w' => e = .returned (.bool true) ∧ Below w.heap.size w w' := by
 have hu63 := Try.underlying63
 have HR0 := Aside0.mk hr0
 have HC0 := Aside0.mk hc0
 clear hr0 hc0
 have HB := Aside0.mk (Below.refl w.heap.size w)
 have H : ((remontoirlaw18_great.f k l0).bind fun t411 => (if t411 = true then ((remontoirlaw18_knows.f k).bind fun t412 => (some t412)) else ((port_Send.f k l0 a1 a2 a3).bind fun bt413 => ((port_Read.f k l0 a1 a2).bind fun bt417 => ((remontoirlaw18_right.f k l0).bind fun t422 => (if t422 = true then ((remontoirlaw18_As.f k l0).bind fun t426 => ((remontoirref18_Send.f k t426 a1 a2 a3).bind fun bt429 => ((remontoirref18_Read.f k t426 a1 a2).bind fun bt440 => (if bt413.2 = bt429.2.2.2.2.2 then (if bt417.2.2 = bt440.2.2.2.2.2.2 then (if bt417.1 = bt440.1 then ((remontoirlaw18_right.f k bt413.1).bind fun t452 => (if t452 = true then ((remontoirlaw18_right.f k bt417.2.1).bind fun t453 => (remontoirlaw18_PortSends.j0 k l0 a2 bt413.1 bt417.2.1 t426 bt429.2.2.2.2.2 bt440.2.2.2.2.2.2 (!t453) bt429.1 bt429.2.1 bt429.2.2.1 bt429.2.2.2.1 bt429.2.2.2.2.1 bt440.2.1 bt440.2.2.1 bt440.2.2.2.1 bt440.2.2.2.2.1 bt440.2.2.2.2.2.1)) else (remontoirlaw18_PortSends.j0 k l0 a2 bt413.1 bt417.2.1 t426 bt429.2.2.2.2.2 bt440.2.2.2.2.2.2 true bt429.1 bt429.2.1 bt429.2.2.1 bt429.2.2.2.1 bt429.2.2.2.2.1 bt440.2.1 bt440.2.2.1 bt440.2.2.2.1 bt440.2.2.2.2.1 bt440.2.2.2.2.2.1))) else (remontoirlaw18_PortSends.j0 k l0 a2 bt413.1 bt417.2.1 t426 bt429.2.2.2.2.2 bt440.2.2.2.2.2.2 true bt429.1 bt429.2.1 bt429.2.2.1 bt429.2.2.2.1 bt429.2.2.2.2.1 bt440.2.1 bt440.2.2.1 bt440.2.2.2.1 bt440.2.2.2.2.1 bt440.2.2.2.2.2.1)) else (remontoirlaw18_PortSends.j0 k l0 a2 bt413.1 bt417.2.1 t426 bt429.2.2.2.2.2 bt440.2.2.2.2.2.2 true bt429.1 bt429.2.1 bt429.2.2.1 bt429.2.2.2.1 bt429.2.2.2.2.1 bt440.2.1 bt440.2.2.1 bt440.2.2.2.1 bt440.2.2.2.2.1 bt440.2.2.2.2.2.1)) else (remontoirlaw18_PortSends.j0 k l0 a2 bt413.1 bt417.2.1 t426 bt429.2.2.2.2.2 bt440.2.2.2.2.2.2 true bt429.1 bt429.2.1 bt429.2.2.1 bt429.2.2.2.1 bt429.2.2.2.2.1 bt440.2.1 bt440.2.2.1 bt440.2.2.2.1 bt440.2.2.2.2.1 bt440.2.2.2.2.2.1))))) else ((remontoirlaw18_stays.f k bt413.1 l0).bind fun t423 => (if t423 = true then (if bt413.2 = 1 then (if bt417.1 = 0 then ((remontoirlaw18_stays.f k bt417.2.1 l0).bind fun t424 => (if t424 = true then (if bt417.2.2 = 1 then ((remontoirlaw18_knows.f k).bind fun t425 => (some t425)) else (some false)) else (some false))) else (some false)) else (some false)) else (some false))))))))) = some true := h
 clear h
 replace H := Option.bind_eq_some_iff.mp H
 obtain ⟨t411, A50, H⟩ := H
 replace H : (if t411 = true then ((remontoirlaw18_knows.f k).bind fun t412 => (some t412)) else ((port_Send.f k l0 a1 a2 a3).bind fun bt413 => ((port_Read.f k l0 a1 a2).bind fun bt417 => ((remontoirlaw18_right.f k l0).bind fun t422 => (if t422 = true then ((remontoirlaw18_As.f k l0).bind fun t426 => ((remontoirref18_Send.f k t426 a1 a2 a3).bind fun bt429 => ((remontoirref18_Read.f k t426 a1 a2).bind fun bt440 => (if bt413.2 = bt429.2.2.2.2.2 then (if bt417.2.2 = bt440.2.2.2.2.2.2 then (if bt417.1 = bt440.1 then ((remontoirlaw18_right.f k bt413.1).bind fun t452 => (if t452 = true then ((remontoirlaw18_right.f k bt417.2.1).bind fun t453 => (remontoirlaw18_PortSends.j0 k l0 a2 bt413.1 bt417.2.1 t426 bt429.2.2.2.2.2 bt440.2.2.2.2.2.2 (!t453) bt429.1 bt429.2.1 bt429.2.2.1 bt429.2.2.2.1 bt429.2.2.2.2.1 bt440.2.1 bt440.2.2.1 bt440.2.2.2.1 bt440.2.2.2.2.1 bt440.2.2.2.2.2.1)) else (remontoirlaw18_PortSends.j0 k l0 a2 bt413.1 bt417.2.1 t426 bt429.2.2.2.2.2 bt440.2.2.2.2.2.2 true bt429.1 bt429.2.1 bt429.2.2.1 bt429.2.2.2.1 bt429.2.2.2.2.1 bt440.2.1 bt440.2.2.1 bt440.2.2.2.1 bt440.2.2.2.2.1 bt440.2.2.2.2.2.1))) else (remontoirlaw18_PortSends.j0 k l0 a2 bt413.1 bt417.2.1 t426 bt429.2.2.2.2.2 bt440.2.2.2.2.2.2 true bt429.1 bt429.2.1 bt429.2.2.1 bt429.2.2.2.1 bt429.2.2.2.2.1 bt440.2.1 bt440.2.2.1 bt440.2.2.2.1 bt440.2.2.2.2.1 bt440.2.2.2.2.2.1)) else (remontoirlaw18_PortSends.j0 k l0 a2 bt413.1 bt417.2.1 t426 bt429.2.2.2.2.2 bt440.2.2.2.2.2.2 true bt429.1 bt429.2.1 bt429.2.2.1 bt429.2.2.2.1 bt429.2.2.2.2.1 bt440.2.1 bt440.2.2.1 bt440.2.2.2.1 bt440.2.2.2.2.1 bt440.2.2.2.2.2.1)) else (remontoirlaw18_PortSends.j0 k l0 a2 bt413.1 bt417.2.1 t426 bt429.2.2.2.2.2 bt440.2.2.2.2.2.2 true bt429.1 bt429.2.1 bt429.2.2.1 bt429.2.2.2.1 bt429.2.2.2.2.1 bt440.2.1 bt440.2.2.1 bt440.2.2.2.1 bt440.2.2.2.2.1 bt440.2.2.2.2.2.1))))) else ((remontoirlaw18_stays.f k bt413.1 l0).bind fun t423 => (if t423 = true then (if bt413.2 = 1 then (if bt417.1 = 0 then ((remontoirlaw18_stays.f k bt417.2.1 l0).bind fun t424 => (if t424 = true then (if bt417.2.2 = 1 then ((remontoirlaw18_knows.f k).bind fun t425 => (some t425)) else (some false)) else (some false))) else (some false)) else (some false)) else (some false)))))))) = some true := H
 have A5 := Aside0.mk A50
 clear A50
 by_cases c6 : t411 = true
 ·
  subst c6
  have H1 : ((remontoirlaw18_knows.f k).bind fun t412 => (some t412)) = some true := by rw [if_pos rfl] at H; exact H
  clear H
  have H := H1
  clear H1
  replace H := Option.bind_eq_some_iff.mp H
  obtain ⟨t412, A70, H⟩ := H
  replace H : (some t412) = some true := H
  have A7 := Aside0.mk A70
  clear A70
  have HR_ := Aside0.mk (Option.some.inj H)
  clear H
  go_enter Try.func9, Try.ntmps9
  go_wp2_with (first | ((with_reducible refine gate_callee (f := 32) rfl ?_); refine goesL_ (some 21) rfl rfl Try.func32 (by kernel_rfl) rfl #[.slice A0 l0.length c0] rfl (by (try simp only [List.map_toArray, List.map_cons, List.map_nil]); rfl) ?_; (with_reducible refine (remontoirlaw18_great.calls k _ _ l0 true _ ?side1 ?side2 A5.out).mono ?_); (case side1 => repeat ((exact HR0.out))); (case side2 => exact HC0.out); rintro e w' ⟨rfl, ⟨nd, rfl⟩⟩; refine ⟨_, rfl, ?_⟩) | ((with_reducible refine gate_callee (f := 27) rfl ?_); refine goesL_ (some 22) rfl rfl Try.func27 (by kernel_rfl) rfl #[] rfl (by (try simp only [List.map_toArray, List.map_cons, List.map_nil]); done) ?_; (with_reducible refine (remontoirlaw18_knows.calls k  t412 _ A7.out).mono ?_); rintro e w8 ⟨rfl, hb⟩; refine ⟨_, rfl, ?_⟩; have n0_ := Aside0.mk (below_step (by repeat ((with_reducible first | exact HB.out | apply pw_below_drewN))) hb); clear HB; have HB := n0_; clear n0_; (try clear hb); (try clear hb2); (try clear hk); (try clear hi)))
  go_ret
  exact ⟨by (rw [HR_.out] <;> rfl), by repeat ((with_reducible (exact HB.out)))⟩
 ·
  replace c6 := Bool.eq_false_iff.mpr c6
  subst c6
  have H1 : ((port_Send.f k l0 a1 a2 a3).bind fun bt413 => ((port_Read.f k l0 a1 a2).bind fun bt417 => ((remontoirlaw18_right.f k l0).bind fun t422 => (if t422 = true then ((remontoirlaw18_As.f k l0).bind fun t426 => ((remontoirref18_Send.f k t426 a1 a2 a3).bind fun bt429 => ((remontoirref18_Read.f k t426 a1 a2).bind fun bt440 => (if bt413.2 = bt429.2.2.2.2.2 then (if bt417.2.2 = bt440.2.2.2.2.2.2 then (if bt417.1 = bt440.1 then ((remontoirlaw18_right.f k bt413.1).bind fun t452 => (if t452 = true then ((remontoirlaw18_right.f k bt417.2.1).bind fun t453 => (remontoirlaw18_PortSends.j0 k l0 a2 bt413.1 bt417.2.1 t426 bt429.2.2.2.2.2 bt440.2.2.2.2.2.2 (!t453) bt429.1 bt429.2.1 bt429.2.2.1 bt429.2.2.2.1 bt429.2.2.2.2.1 bt440.2.1 bt440.2.2.1 bt440.2.2.2.1 bt440.2.2.2.2.1 bt440.2.2.2.2.2.1)) else (remontoirlaw18_PortSends.j0 k l0 a2 bt413.1 bt417.2.1 t426 bt429.2.2.2.2.2 bt440.2.2.2.2.2.2 true bt429.1 bt429.2.1 bt429.2.2.1 bt429.2.2.2.1 bt429.2.2.2.2.1 bt440.2.1 bt440.2.2.1 bt440.2.2.2.1 bt440.2.2.2.2.1 bt440.2.2.2.2.2.1))) else (remontoirlaw18_PortSends.j0 k l0 a2 bt413.1 bt417.2.1 t426 bt429.2.2.2.2.2 bt440.2.2.2.2.2.2 true bt429.1 bt429.2.1 bt429.2.2.1 bt429.2.2.2.1 bt429.2.2.2.2.1 bt440.2.1 bt440.2.2.1 bt440.2.2.2.1 bt440.2.2.2.2.1 bt440.2.2.2.2.2.1)) else (remontoirlaw18_PortSends.j0 k l0 a2 bt413.1 bt417.2.1 t426 bt429.2.2.2.2.2 bt440.2.2.2.2.2.2 true bt429.1 bt429.2.1 bt429.2.2.1 bt429.2.2.2.1 bt429.2.2.2.2.1 bt440.2.1 bt440.2.2.1 bt440.2.2.2.1 bt440.2.2.2.2.1 bt440.2.2.2.2.2.1)) else (remontoirlaw18_PortSends.j0 k l0 a2 bt413.1 bt417.2.1 t426 bt429.2.2.2.2.2 bt440.2.2.2.2.2.2 true bt429.1 bt429.2.1 bt429.2.2.1 bt429.2.2.2.1 bt429.2.2.2.2.1 bt440.2.1 bt440.2.2.1 bt440.2.2.2.1 bt440.2.2.2.2.1 bt440.2.2.2.2.2.1))))) else ((remontoirlaw18_stays.f k bt413.1 l0).bind fun t423 => (if t423 = true then (if bt413.2 = 1 then (if bt417.1 = 0 then ((remontoirlaw18_stays.f k bt417.2.1 l0).bind fun t424 => (if t424 = true then (if bt417.2.2 = 1 then ((remontoirlaw18_knows.f k).bind fun t425 => (some t425)) else (some false)) else (some false))) else (some false)) else (some false)) else (some false))))))) = some true := by rw [if_neg (show ¬ (false = true) by decide)] at H; exact H
  clear H
  have H := H1
  clear H1
  replace H := Option.bind_eq_some_iff.mp H
  obtain ⟨⟨t413, t416⟩, A90, H⟩ := H
  replace H : ((port_Read.f k l0 a1 a2).bind fun bt417 => ((remontoirlaw18_right.f k l0).bind fun t422 => (if t422 = true then ((remontoirlaw18_As.f k l0).bind fun t426 => ((remontoirref18_Send.f k t426 a1 a2 a3).bind fun bt429 => ((remontoirref18_Read.f k t426 a1 a2).bind fun bt440 => (if t416 = bt429.2.2.2.2.2 then (if bt417.2.2 = bt440.2.2.2.2.2.2 then (if bt417.1 = bt440.1 then ((remontoirlaw18_right.f k t413).bind fun t452 => (if t452 = true then ((remontoirlaw18_right.f k bt417.2.1).bind fun t453 => (remontoirlaw18_PortSends.j0 k l0 a2 t413 bt417.2.1 t426 bt429.2.2.2.2.2 bt440.2.2.2.2.2.2 (!t453) bt429.1 bt429.2.1 bt429.2.2.1 bt429.2.2.2.1 bt429.2.2.2.2.1 bt440.2.1 bt440.2.2.1 bt440.2.2.2.1 bt440.2.2.2.2.1 bt440.2.2.2.2.2.1)) else (remontoirlaw18_PortSends.j0 k l0 a2 t413 bt417.2.1 t426 bt429.2.2.2.2.2 bt440.2.2.2.2.2.2 true bt429.1 bt429.2.1 bt429.2.2.1 bt429.2.2.2.1 bt429.2.2.2.2.1 bt440.2.1 bt440.2.2.1 bt440.2.2.2.1 bt440.2.2.2.2.1 bt440.2.2.2.2.2.1))) else (remontoirlaw18_PortSends.j0 k l0 a2 t413 bt417.2.1 t426 bt429.2.2.2.2.2 bt440.2.2.2.2.2.2 true bt429.1 bt429.2.1 bt429.2.2.1 bt429.2.2.2.1 bt429.2.2.2.2.1 bt440.2.1 bt440.2.2.1 bt440.2.2.2.1 bt440.2.2.2.2.1 bt440.2.2.2.2.2.1)) else (remontoirlaw18_PortSends.j0 k l0 a2 t413 bt417.2.1 t426 bt429.2.2.2.2.2 bt440.2.2.2.2.2.2 true bt429.1 bt429.2.1 bt429.2.2.1 bt429.2.2.2.1 bt429.2.2.2.2.1 bt440.2.1 bt440.2.2.1 bt440.2.2.2.1 bt440.2.2.2.2.1 bt440.2.2.2.2.2.1)) else (remontoirlaw18_PortSends.j0 k l0 a2 t413 bt417.2.1 t426 bt429.2.2.2.2.2 bt440.2.2.2.2.2.2 true bt429.1 bt429.2.1 bt429.2.2.1 bt429.2.2.2.1 bt429.2.2.2.2.1 bt440.2.1 bt440.2.2.1 bt440.2.2.2.1 bt440.2.2.2.2.1 bt440.2.2.2.2.2.1))))) else ((remontoirlaw18_stays.f k t413 l0).bind fun t423 => (if t423 = true then (if t416 = 1 then (if bt417.1 = 0 then ((remontoirlaw18_stays.f k bt417.2.1 l0).bind fun t424 => (if t424 = true then (if bt417.2.2 = 1 then ((remontoirlaw18_knows.f k).bind fun t425 => (some t425)) else (some false)) else (some false))) else (some false)) else (some false)) else (some false)))))) = some true := H
  have A9 := Aside0.mk A90
  clear A90
  replace H := Option.bind_eq_some_iff.mp H
  obtain ⟨⟨t417, t418, t421⟩, A100, H⟩ := H
  replace H : ((remontoirlaw18_right.f k l0).bind fun t422 => (if t422 = true then ((remontoirlaw18_As.f k l0).bind fun t426 => ((remontoirref18_Send.f k t426 a1 a2 a3).bind fun bt429 => ((remontoirref18_Read.f k t426 a1 a2).bind fun bt440 => (if t416 = bt429.2.2.2.2.2 then (if t421 = bt440.2.2.2.2.2.2 then (if t417 = bt440.1 then ((remontoirlaw18_right.f k t413).bind fun t452 => (if t452 = true then ((remontoirlaw18_right.f k t418).bind fun t453 => (remontoirlaw18_PortSends.j0 k l0 a2 t413 t418 t426 bt429.2.2.2.2.2 bt440.2.2.2.2.2.2 (!t453) bt429.1 bt429.2.1 bt429.2.2.1 bt429.2.2.2.1 bt429.2.2.2.2.1 bt440.2.1 bt440.2.2.1 bt440.2.2.2.1 bt440.2.2.2.2.1 bt440.2.2.2.2.2.1)) else (remontoirlaw18_PortSends.j0 k l0 a2 t413 t418 t426 bt429.2.2.2.2.2 bt440.2.2.2.2.2.2 true bt429.1 bt429.2.1 bt429.2.2.1 bt429.2.2.2.1 bt429.2.2.2.2.1 bt440.2.1 bt440.2.2.1 bt440.2.2.2.1 bt440.2.2.2.2.1 bt440.2.2.2.2.2.1))) else (remontoirlaw18_PortSends.j0 k l0 a2 t413 t418 t426 bt429.2.2.2.2.2 bt440.2.2.2.2.2.2 true bt429.1 bt429.2.1 bt429.2.2.1 bt429.2.2.2.1 bt429.2.2.2.2.1 bt440.2.1 bt440.2.2.1 bt440.2.2.2.1 bt440.2.2.2.2.1 bt440.2.2.2.2.2.1)) else (remontoirlaw18_PortSends.j0 k l0 a2 t413 t418 t426 bt429.2.2.2.2.2 bt440.2.2.2.2.2.2 true bt429.1 bt429.2.1 bt429.2.2.1 bt429.2.2.2.1 bt429.2.2.2.2.1 bt440.2.1 bt440.2.2.1 bt440.2.2.2.1 bt440.2.2.2.2.1 bt440.2.2.2.2.2.1)) else (remontoirlaw18_PortSends.j0 k l0 a2 t413 t418 t426 bt429.2.2.2.2.2 bt440.2.2.2.2.2.2 true bt429.1 bt429.2.1 bt429.2.2.1 bt429.2.2.2.1 bt429.2.2.2.2.1 bt440.2.1 bt440.2.2.1 bt440.2.2.2.1 bt440.2.2.2.2.1 bt440.2.2.2.2.2.1))))) else ((remontoirlaw18_stays.f k t413 l0).bind fun t423 => (if t423 = true then (if t416 = 1 then (if t417 = 0 then ((remontoirlaw18_stays.f k t418 l0).bind fun t424 => (if t424 = true then (if t421 = 1 then ((remontoirlaw18_knows.f k).bind fun t425 => (some t425)) else (some false)) else (some false))) else (some false)) else (some false)) else (some false))))) = some true := H
  have A10 := Aside0.mk A100
  clear A100
  replace H := Option.bind_eq_some_iff.mp H
  obtain ⟨t422, A110, H⟩ := H
  replace H : (if t422 = true then ((remontoirlaw18_As.f k l0).bind fun t426 => ((remontoirref18_Send.f k t426 a1 a2 a3).bind fun bt429 => ((remontoirref18_Read.f k t426 a1 a2).bind fun bt440 => (if t416 = bt429.2.2.2.2.2 then (if t421 = bt440.2.2.2.2.2.2 then (if t417 = bt440.1 then ((remontoirlaw18_right.f k t413).bind fun t452 => (if t452 = true then ((remontoirlaw18_right.f k t418).bind fun t453 => (remontoirlaw18_PortSends.j0 k l0 a2 t413 t418 t426 bt429.2.2.2.2.2 bt440.2.2.2.2.2.2 (!t453) bt429.1 bt429.2.1 bt429.2.2.1 bt429.2.2.2.1 bt429.2.2.2.2.1 bt440.2.1 bt440.2.2.1 bt440.2.2.2.1 bt440.2.2.2.2.1 bt440.2.2.2.2.2.1)) else (remontoirlaw18_PortSends.j0 k l0 a2 t413 t418 t426 bt429.2.2.2.2.2 bt440.2.2.2.2.2.2 true bt429.1 bt429.2.1 bt429.2.2.1 bt429.2.2.2.1 bt429.2.2.2.2.1 bt440.2.1 bt440.2.2.1 bt440.2.2.2.1 bt440.2.2.2.2.1 bt440.2.2.2.2.2.1))) else (remontoirlaw18_PortSends.j0 k l0 a2 t413 t418 t426 bt429.2.2.2.2.2 bt440.2.2.2.2.2.2 true bt429.1 bt429.2.1 bt429.2.2.1 bt429.2.2.2.1 bt429.2.2.2.2.1 bt440.2.1 bt440.2.2.1 bt440.2.2.2.1 bt440.2.2.2.2.1 bt440.2.2.2.2.2.1)) else (remontoirlaw18_PortSends.j0 k l0 a2 t413 t418 t426 bt429.2.2.2.2.2 bt440.2.2.2.2.2.2 true bt429.1 bt429.2.1 bt429.2.2.1 bt429.2.2.2.1 bt429.2.2.2.2.1 bt440.2.1 bt440.2.2.1 bt440.2.2.2.1 bt440.2.2.2.2.1 bt440.2.2.2.2.2.1)) else (remontoirlaw18_PortSends.j0 k l0 a2 t413 t418 t426 bt429.2.2.2.2.2 bt440.2.2.2.2.2.2 true bt429.1 bt429.2.1 bt429.2.2.1 bt429.2.2.2.1 bt429.2.2.2.2.1 bt440.2.1 bt440.2.2.1 bt440.2.2.2.1 bt440.2.2.2.2.1 bt440.2.2.2.2.2.1))))) else ((remontoirlaw18_stays.f k t413 l0).bind fun t423 => (if t423 = true then (if t416 = 1 then (if t417 = 0 then ((remontoirlaw18_stays.f k t418 l0).bind fun t424 => (if t424 = true then (if t421 = 1 then ((remontoirlaw18_knows.f k).bind fun t425 => (some t425)) else (some false)) else (some false))) else (some false)) else (some false)) else (some false)))) = some true := H
  have A11 := Aside0.mk A110
  clear A110
  by_cases c12 : t422 = true
  ·
   subst c12
   have H1 : ((remontoirlaw18_As.f k l0).bind fun t426 => ((remontoirref18_Send.f k t426 a1 a2 a3).bind fun bt429 => ((remontoirref18_Read.f k t426 a1 a2).bind fun bt440 => (if t416 = bt429.2.2.2.2.2 then (if t421 = bt440.2.2.2.2.2.2 then (if t417 = bt440.1 then ((remontoirlaw18_right.f k t413).bind fun t452 => (if t452 = true then ((remontoirlaw18_right.f k t418).bind fun t453 => (remontoirlaw18_PortSends.j0 k l0 a2 t413 t418 t426 bt429.2.2.2.2.2 bt440.2.2.2.2.2.2 (!t453) bt429.1 bt429.2.1 bt429.2.2.1 bt429.2.2.2.1 bt429.2.2.2.2.1 bt440.2.1 bt440.2.2.1 bt440.2.2.2.1 bt440.2.2.2.2.1 bt440.2.2.2.2.2.1)) else (remontoirlaw18_PortSends.j0 k l0 a2 t413 t418 t426 bt429.2.2.2.2.2 bt440.2.2.2.2.2.2 true bt429.1 bt429.2.1 bt429.2.2.1 bt429.2.2.2.1 bt429.2.2.2.2.1 bt440.2.1 bt440.2.2.1 bt440.2.2.2.1 bt440.2.2.2.2.1 bt440.2.2.2.2.2.1))) else (remontoirlaw18_PortSends.j0 k l0 a2 t413 t418 t426 bt429.2.2.2.2.2 bt440.2.2.2.2.2.2 true bt429.1 bt429.2.1 bt429.2.2.1 bt429.2.2.2.1 bt429.2.2.2.2.1 bt440.2.1 bt440.2.2.1 bt440.2.2.2.1 bt440.2.2.2.2.1 bt440.2.2.2.2.2.1)) else (remontoirlaw18_PortSends.j0 k l0 a2 t413 t418 t426 bt429.2.2.2.2.2 bt440.2.2.2.2.2.2 true bt429.1 bt429.2.1 bt429.2.2.1 bt429.2.2.2.1 bt429.2.2.2.2.1 bt440.2.1 bt440.2.2.1 bt440.2.2.2.1 bt440.2.2.2.2.1 bt440.2.2.2.2.2.1)) else (remontoirlaw18_PortSends.j0 k l0 a2 t413 t418 t426 bt429.2.2.2.2.2 bt440.2.2.2.2.2.2 true bt429.1 bt429.2.1 bt429.2.2.1 bt429.2.2.2.1 bt429.2.2.2.2.1 bt440.2.1 bt440.2.2.1 bt440.2.2.2.1 bt440.2.2.2.2.1 bt440.2.2.2.2.2.1))))) = some true := by rw [if_pos rfl] at H; exact H
   clear H
   have H := H1
   clear H1
   replace H := Option.bind_eq_some_iff.mp H
   obtain ⟨t426, A130, H⟩ := H
   replace H : ((remontoirref18_Send.f k t426 a1 a2 a3).bind fun bt429 => ((remontoirref18_Read.f k t426 a1 a2).bind fun bt440 => (if t416 = bt429.2.2.2.2.2 then (if t421 = bt440.2.2.2.2.2.2 then (if t417 = bt440.1 then ((remontoirlaw18_right.f k t413).bind fun t452 => (if t452 = true then ((remontoirlaw18_right.f k t418).bind fun t453 => (remontoirlaw18_PortSends.j0 k l0 a2 t413 t418 t426 bt429.2.2.2.2.2 bt440.2.2.2.2.2.2 (!t453) bt429.1 bt429.2.1 bt429.2.2.1 bt429.2.2.2.1 bt429.2.2.2.2.1 bt440.2.1 bt440.2.2.1 bt440.2.2.2.1 bt440.2.2.2.2.1 bt440.2.2.2.2.2.1)) else (remontoirlaw18_PortSends.j0 k l0 a2 t413 t418 t426 bt429.2.2.2.2.2 bt440.2.2.2.2.2.2 true bt429.1 bt429.2.1 bt429.2.2.1 bt429.2.2.2.1 bt429.2.2.2.2.1 bt440.2.1 bt440.2.2.1 bt440.2.2.2.1 bt440.2.2.2.2.1 bt440.2.2.2.2.2.1))) else (remontoirlaw18_PortSends.j0 k l0 a2 t413 t418 t426 bt429.2.2.2.2.2 bt440.2.2.2.2.2.2 true bt429.1 bt429.2.1 bt429.2.2.1 bt429.2.2.2.1 bt429.2.2.2.2.1 bt440.2.1 bt440.2.2.1 bt440.2.2.2.1 bt440.2.2.2.2.1 bt440.2.2.2.2.2.1)) else (remontoirlaw18_PortSends.j0 k l0 a2 t413 t418 t426 bt429.2.2.2.2.2 bt440.2.2.2.2.2.2 true bt429.1 bt429.2.1 bt429.2.2.1 bt429.2.2.2.1 bt429.2.2.2.2.1 bt440.2.1 bt440.2.2.1 bt440.2.2.2.1 bt440.2.2.2.2.1 bt440.2.2.2.2.2.1)) else (remontoirlaw18_PortSends.j0 k l0 a2 t413 t418 t426 bt429.2.2.2.2.2 bt440.2.2.2.2.2.2 true bt429.1 bt429.2.1 bt429.2.2.1 bt429.2.2.2.1 bt429.2.2.2.2.1 bt440.2.1 bt440.2.2.1 bt440.2.2.2.1 bt440.2.2.2.2.1 bt440.2.2.2.2.2.1)))) = some true := H
   have A13 := Aside0.mk A130
   clear A130
   replace H := Option.bind_eq_some_iff.mp H
   obtain ⟨⟨t429, t430, t431, t432, t435, t438⟩, A140, H⟩ := H
   replace H : ((remontoirref18_Read.f k t426 a1 a2).bind fun bt440 => (if t416 = t438 then (if t421 = bt440.2.2.2.2.2.2 then (if t417 = bt440.1 then ((remontoirlaw18_right.f k t413).bind fun t452 => (if t452 = true then ((remontoirlaw18_right.f k t418).bind fun t453 => (remontoirlaw18_PortSends.j0 k l0 a2 t413 t418 t426 t438 bt440.2.2.2.2.2.2 (!t453) t429 t430 t431 t432 t435 bt440.2.1 bt440.2.2.1 bt440.2.2.2.1 bt440.2.2.2.2.1 bt440.2.2.2.2.2.1)) else (remontoirlaw18_PortSends.j0 k l0 a2 t413 t418 t426 t438 bt440.2.2.2.2.2.2 true t429 t430 t431 t432 t435 bt440.2.1 bt440.2.2.1 bt440.2.2.2.1 bt440.2.2.2.2.1 bt440.2.2.2.2.2.1))) else (remontoirlaw18_PortSends.j0 k l0 a2 t413 t418 t426 t438 bt440.2.2.2.2.2.2 true t429 t430 t431 t432 t435 bt440.2.1 bt440.2.2.1 bt440.2.2.2.1 bt440.2.2.2.2.1 bt440.2.2.2.2.2.1)) else (remontoirlaw18_PortSends.j0 k l0 a2 t413 t418 t426 t438 bt440.2.2.2.2.2.2 true t429 t430 t431 t432 t435 bt440.2.1 bt440.2.2.1 bt440.2.2.2.1 bt440.2.2.2.2.1 bt440.2.2.2.2.2.1)) else (remontoirlaw18_PortSends.j0 k l0 a2 t413 t418 t426 t438 bt440.2.2.2.2.2.2 true t429 t430 t431 t432 t435 bt440.2.1 bt440.2.2.1 bt440.2.2.2.1 bt440.2.2.2.2.1 bt440.2.2.2.2.2.1))) = some true := H
   have A14 := Aside0.mk A140
   clear A140
   replace H := Option.bind_eq_some_iff.mp H
   obtain ⟨⟨t440, t441, t442, t443, t444, t447, t450⟩, A150, H⟩ := H
   replace H : (if t416 = t438 then (if t421 = t450 then (if t417 = t440 then ((remontoirlaw18_right.f k t413).bind fun t452 => (if t452 = true then ((remontoirlaw18_right.f k t418).bind fun t453 => (remontoirlaw18_PortSends.j0 k l0 a2 t413 t418 t426 t438 t450 (!t453) t429 t430 t431 t432 t435 t441 t442 t443 t444 t447)) else (remontoirlaw18_PortSends.j0 k l0 a2 t413 t418 t426 t438 t450 true t429 t430 t431 t432 t435 t441 t442 t443 t444 t447))) else (remontoirlaw18_PortSends.j0 k l0 a2 t413 t418 t426 t438 t450 true t429 t430 t431 t432 t435 t441 t442 t443 t444 t447)) else (remontoirlaw18_PortSends.j0 k l0 a2 t413 t418 t426 t438 t450 true t429 t430 t431 t432 t435 t441 t442 t443 t444 t447)) else (remontoirlaw18_PortSends.j0 k l0 a2 t413 t418 t426 t438 t450 true t429 t430 t431 t432 t435 t441 t442 t443 t444 t447)) = some true := H
   have A15 := Aside0.mk A150
   clear A150
   have HC16 := Aside0.mk H
   clear H
   go_enter Try.func9, Try.ntmps9
   go_upto_region 10 with (first | ((with_reducible refine gate_callee (f := 32) rfl ?_); refine goesL_ (some 21) rfl rfl Try.func32 (by kernel_rfl) rfl #[.slice A0 l0.length c0] rfl (by (try simp only [List.map_toArray, List.map_cons, List.map_nil]); rfl) ?_; (with_reducible refine (remontoirlaw18_great.calls k _ _ l0 false _ ?side1 ?side2 A5.out).mono ?_); (case side1 => repeat ((exact HR0.out))); (case side2 => exact HC0.out); rintro e w' ⟨rfl, ⟨nd, rfl⟩⟩; refine ⟨_, rfl, ?_⟩) | ((with_reducible refine gate_callee (f := 28) rfl ?_); refine goesL_ (some 28) rfl rfl Try.func28 (by kernel_rfl) rfl #[.slice A0 l0.length c0, .int .i64 a1, .int .i64 a2, .int .i64 a3] rfl (by (try simp only [List.map_toArray, List.map_cons, List.map_nil]); rfl) ?_; (with_reducible refine (port_Send.calls k (fun k_ => k_ < w.heap.size) _ _ l0 a1 a2 a3 t413 t416 _ ?side1 A9.out).mono ?_); (case side1 => exact Kd.V_mk HC0.out (Kd.F_below (Kd.C_F k76_heap HR0.out) (by repeat ((with_reducible first | exact HB.out | apply pw_below_drewN))))); rintro e w17 ⟨v414, rfl, ho0, hb⟩; refine ⟨_, rfl, ?_⟩; have n0_ := Aside0.mk (Kd.V_lower (Kd.V_mono (ok' := fun k_ => True) ho0 (fun k_ hk_ => trivial)) (below_size (by repeat ((with_reducible first | exact HB.out | apply pw_below_drewN))))); have n1_ := Aside0.mk (below_step (by repeat ((with_reducible first | exact HB.out | apply pw_below_drewN))) hb); clear HB; have HO415 := n0_; have HB := n1_; clear n0_ n1_; (try clear hb); (try clear hb2); (try clear hk); (try clear hi); (try clear ho0)) | ((with_reducible refine gate_callee (f := 29) rfl ?_); refine goesL_ (some 35) rfl rfl Try.func29 (by kernel_rfl) rfl #[.slice A0 l0.length c0, .int .i64 a1, .int .i64 a2] rfl (by (try simp only [List.map_toArray, List.map_cons, List.map_nil]); rfl) ?_; (with_reducible refine (port_Read.calls k (fun k_ => k_ < w.heap.size) _ _ l0 a1 a2 t417 t418 t421 _ ?side1 A10.out).mono ?_); (case side1 => exact Kd.V_mk HC0.out (Kd.F_below (Kd.C_F k76_heap HR0.out) HB.out)); rintro e w18 ⟨v419, rfl, ho0, hb⟩; refine ⟨_, rfl, ?_⟩; have n1_ := Aside0.mk (Kd.V_lower (Kd.V_mono (ok' := fun k_ => True) ho0 (fun k_ hk_ => trivial)) (below_size HB.out)); have HO420 := n1_; clear n1_; replace HO415 := vb_ HO415 hb; replace HB := hb_ HB hb; (try clear hb); (try clear hb2); (try clear hk); (try clear hi); (try clear ho0)) | ((with_reducible refine gate_callee (f := 33) rfl ?_); refine goesL_ (some 40) rfl rfl Try.func33 (by kernel_rfl) rfl #[.slice A0 l0.length c0] rfl (by (try simp only [List.map_toArray, List.map_cons, List.map_nil]); rfl) ?_; (with_reducible refine (remontoirlaw18_right.calls k _ _ l0 true _ ?side1 ?side2 A11.out).mono ?_); (case side1 => repeat ((exact (Kd.C_below HR0.out HB.out)))); (case side2 => exact HC0.out); rintro e w19 ⟨rfl, hb⟩; refine ⟨_, rfl, ?_⟩; replace HO415 := vb_ HO415 hb; replace HO420 := vb_ HO420 hb; replace HB := hb_ HB hb; (try clear hb); (try clear hb2); (try clear hk); (try clear hi)) | ((with_reducible refine gate_callee (f := 35) rfl ?_); refine goesL_ (some 66) rfl rfl Try.func35 (by kernel_rfl) rfl #[.slice A0 l0.length c0] rfl (by (try simp only [List.map_toArray, List.map_cons, List.map_nil]); rfl) ?_; (with_reducible refine (remontoirlaw18_As.calls k _ _ l0 t426 _ ?side1 ?side2 A13.out).mono ?_); (case side1 => repeat ((exact (Kd.C_below HR0.out HB.out)))); (case side2 => exact HC0.out); rintro e w20 ⟨v427, rfl, ho0, hb⟩; refine ⟨_, rfl, ?_⟩; have n0_ := Aside0.mk (Kd.V_elder' HO415.out (by (exact Kd.N_base (Kd.S_N ho0))) hb); have n1_ := Aside0.mk (Kd.V_elder' HO420.out (by (exact Kd.N_base (Kd.S_N ho0))) hb); have n2_ := Aside0.mk (Kd.N_lower (Kd.N_mono (ok' := fun k_ => True) (Kd.S_N (Kd.S_bound ho0)) (fun k_ hk_ => trivial)) (below_size HB.out)); clear HO415 HO420; have HO415 := n0_; have HO420 := n1_; have HO428 := n2_; clear n0_ n1_ n2_; replace HB := hb_ HB hb; (try clear hb); (try clear hb2); (try clear hk); (try clear hi); (try clear ho0); obtain ⟨Ao21, co21, eo21⟩ := Kd.N_slice HO428.out; subst eo21) | ((with_reducible refine gate_callee (f := 36) rfl ?_); refine goesL_ (some 72) rfl rfl Try.func36 (by kernel_rfl) rfl #[.slice Ao21 t426.length co21, .int .i64 a1, .int .i64 a2, .int .i64 a3] rfl (by (try simp only [List.map_toArray, List.map_cons, List.map_nil]); rfl) ?_; (with_reducible refine (remontoirref18_Send.calls k (fun k_ => True) _ _ t426 a1 a2 a3 t429 t430 t431 t432 t435 t438 _ ?side1 A14.out).mono ?_); (case side1 => exact Kd.N_V (HO428.out)); rintro e w22 ⟨v433, v436, rfl, ho0, ho1, hb⟩; refine ⟨_, rfl, ?_⟩; have n3_ := Aside0.mk (Kd.V_lower (Kd.V_mono (ok' := fun k_ => True) ho0 (fun k_ hk_ => trivial)) (below_size HB.out)); have n4_ := Aside0.mk (Kd.V_lower (Kd.V_mono (ok' := fun k_ => True) ho1 (fun k_ hk_ => trivial)) (below_size HB.out)); have HO434 := n3_; have HO437 := n4_; clear n3_ n4_; replace HO415 := vb_ HO415 hb; replace HO420 := vb_ HO420 hb; replace HO428 := nb_ HO428 hb; replace HB := hb_ HB hb; (try clear hb); (try clear hb2); (try clear hk); (try clear hi); (try clear ho0); (try clear ho1)) | ((with_reducible refine gate_dst (N := 15) rfl ?_); refine box_event ?hg (N := 15) ?hd (cs := #[.int .i64 0, .int .i64 0, .int .i64 0, .slice none 0 0, .slice none 0 0]) (t := 63) ?hr ?_; (case hd => rfl); (case hg => rfl); (case hr => (go_simp; done)); intro gb439 hg w23 hbox hb; have n0_ := Aside0.mk (Kd.V_below (Kd.V_elderB HO415.out gb439 (Nat.le_of_eq hg.symm)) hb); have n1_ := Aside0.mk (Kd.V_below (Kd.V_elderB HO420.out gb439 (Nat.le_of_eq hg.symm)) hb); have n2_ := Aside0.mk (Kd.N_below (Kd.N_elderB HO428.out gb439 (Nat.le_of_eq hg.symm)) hb); have n3_ := Aside0.mk (Kd.V_below (Kd.V_elderB HO434.out gb439 (Nat.le_of_eq hg.symm)) hb); have n4_ := Aside0.mk (Kd.V_below (Kd.V_elderB HO437.out gb439 (Nat.le_of_eq hg.symm)) hb); have n6_ := Aside0.mk (hbox); have n7_ := Aside0.mk ((by rw [hg]; exact (below_size HB.out) : w.heap.size ≤ gb439)); have n8_ := Aside0.mk ((by rw [hg]; exact (below_size HB.out) : w.heap.size ≤ gb439)); clear HO415 HO420 HO428 HO434 HO437; have HO415 := n0_; have HO420 := n1_; have HO428 := n2_; have HO434 := n3_; have HO437 := n4_; have BK439 := n6_; have GW439 := n7_; have GE439 := n8_; clear n0_ n1_ n2_ n3_ n4_ n6_ n7_ n8_; replace HB := hb_ HB hb; clear hb hbox hg; obtain ⟨hcz24_0, hcz24_1, hcz24_2, hcz24_3, hcz24_4, hfz24_0, hfz24_1, hfz24_2, hfz24_3, hfz24_4⟩ := bk5_ BK439.out; obtain ⟨Ao25, co25, eo25⟩ := Kd.V_slice HO434.out; subst eo25; obtain ⟨Ao26, co26, eo26⟩ := Kd.V_slice HO437.out; subst eo26) | ((with_reducible refine gate_store (t := 63) (p := 15) rfl ?_); refine store_event (t := 63) (p := 15) (v := ?vo_w27) (w1 := (((((w23.setCell ⟨gb439, 0, none⟩ (.int .i64 t429)).setCell ⟨gb439, 1, none⟩ (.int .i64 t430)).setCell ⟨gb439, 2, none⟩ (.int .i64 t431)).setCell ⟨gb439, 3, none⟩ (.slice Ao25 t432.length co25)).setCell ⟨gb439, 4, none⟩ (.slice Ao26 t435.length co26))) ?hg ?ho ?hn ?hr ?_; (case ho => rfl); (case hg => rfl); (case hn => rfl); (case hr => (go_simp; done)); intro w27 hw; have n0_ : Aside0 (Kd.V k76 76 w27 w.heap.size (fun k_ => some k_ ≠ (.slice Ao21 t426.length co21 : Value).ownBlock ∧ k_ ≠ gb439) v414 t413) := ⟨(by rw [hw]; exact (by exact Kd.V_mono (vf5_ (Kd.V_mono HO415.out (fun k_ hk => (⟨hk, hk.2⟩ : _ ∧ k_ ≠ gb439))) (fun _ hk => hk.2)) (fun _ hk => ⟨hk.1.1.2, hk.1.2⟩)))⟩; have n1_ : Aside0 (Kd.V k76 76 w27 w.heap.size (fun k_ => some k_ ≠ (.slice Ao21 t426.length co21 : Value).ownBlock ∧ k_ ≠ gb439) v419 t418) := ⟨(by rw [hw]; exact (by exact Kd.V_mono (vf5_ (Kd.V_mono HO420.out (fun k_ hk => (⟨hk, hk.2⟩ : _ ∧ k_ ≠ gb439))) (fun _ hk => hk.2)) (fun _ hk => ⟨hk.1.1.2, hk.1.2⟩)))⟩; have n2_ : Aside0 (Kd.N k63 63 w27 w.heap.size (fun k_ => k_ ≠ gb439) (.slice Ao21 t426.length co21) t426) := ⟨(by rw [hw]; exact (by exact Kd.N_mono (Kd.N_far (p := ⟨gb439, 4, none⟩) (Kd.N_far (p := ⟨gb439, 3, none⟩) (Kd.N_far (p := ⟨gb439, 2, none⟩) (Kd.N_far (p := ⟨gb439, 1, none⟩) (Kd.N_far (p := ⟨gb439, 0, none⟩) (Kd.N_mono HO428.out (fun k_ hk => (⟨hk, hk.2⟩ : _ ∧ k_ ≠ gb439))) (fun _ hk => hk.2) (.int .i64 t429)) (fun _ hk => hk.2) (.int .i64 t430)) (fun _ hk => hk.2) (.int .i64 t431)) (fun _ hk => hk.2) (.slice Ao25 t432.length co25)) (fun _ hk => hk.2) (.slice Ao26 t435.length co26)) (fun _ hk => hk.1.2)))⟩; have n3_ : Aside0 (Kd.V (Kd.int .i64) 3 w27 w.heap.size (fun k_ => k_ ≠ gb439) (.slice Ao25 t432.length co25) t432) := ⟨(by rw [hw]; exact (by exact Kd.V_mono (vf5_ (Kd.V_mono HO434.out (fun k_ hk => (⟨hk, hk.2⟩ : _ ∧ k_ ≠ gb439))) (fun _ hk => hk.2)) (fun _ hk => hk.1.2)))⟩; have n4_ : Aside0 (Kd.V (Kd.int .i64) 3 w27 w.heap.size (fun k_ => k_ ≠ gb439) (.slice Ao26 t435.length co26) t435) := ⟨(by rw [hw]; exact (by exact Kd.V_mono (vf5_ (Kd.V_mono HO437.out (fun k_ hk => (⟨hk, hk.2⟩ : _ ∧ k_ ≠ gb439))) (fun _ hk => hk.2)) (fun _ hk => hk.1.2)))⟩; have n5_ : Aside0 (w27.heap[gb439]? = some (.cells #[.int .i64 t429, .int .i64 t430, .int .i64 t431, .slice Ao25 t432.length co25, .slice Ao26 t435.length co26] 63 (0, 0))) := ⟨(by rw [hw]; exact (by exact bp5_ BK439.out))⟩; have n6_ : Aside0 (Below w.heap.size w w27) := ⟨(by rw [hw]; exact (by repeat ((with_reducible first | exact HB.out | refine below_set ?_ GE439.out))))⟩; clear hw; clear HO415; clear HO420; clear HO428; clear HO434; clear HO437; clear BK439; clear HB; have HO415 := n0_; have HO420 := n1_; have HO428 := n2_; have HO434 := n3_; have HO437 := n4_; have BK439 := n5_; have HB := n6_; clear n0_ n1_ n2_ n3_ n4_ n5_ n6_) | ((with_reducible refine gate_callee (f := 37) rfl ?_); refine goesL_ (some 79) rfl rfl Try.func37 (by kernel_rfl) rfl #[.slice Ao21 t426.length co21, .int .i64 a1, .int .i64 a2] rfl (by (try simp only [List.map_toArray, List.map_cons, List.map_nil]); rfl) ?_; (with_reducible refine (remontoirref18_Read.calls k (fun k_ => k_ ≠ gb439) _ _ t426 a1 a2 t440 t441 t442 t443 t444 t447 t450 _ ?side1 A15.out).mono ?_); (case side1 => exact Kd.N_V (HO428.out)); rintro e w28 ⟨v445, v448, rfl, ho0, ho1, hb⟩; refine ⟨_, rfl, ?_⟩; have n5_ := Aside0.mk (Kd.V_lower (Kd.V_mono (ok' := fun k_ => k_ ≠ gb439) ho0 (fun k_ hk_ => Or.elim hk_ (fun hs_ => hs_) (fun hn_ => (Kd.freshB BK439.out k_ hn_)))) (below_size HB.out)); have n6_ := Aside0.mk (Kd.V_lower (Kd.V_mono (ok' := fun k_ => k_ ≠ gb439) ho1 (fun k_ hk_ => Or.elim hk_ (fun hs_ => hs_) (fun hn_ => (Kd.freshB BK439.out k_ hn_)))) (below_size HB.out)); have HO446 := n5_; have HO449 := n6_; clear n5_ n6_; replace HO415 := vb_ HO415 hb; replace HO420 := vb_ HO420 hb; replace HO428 := nb_ HO428 hb; replace HO434 := vb_ HO434 hb; replace HO437 := vb_ HO437 hb; replace BK439 := kb_ BK439 hb; replace HB := hb_ HB hb; (try clear hb); (try clear hb2); (try clear hk); (try clear hi); (try clear ho0); (try clear ho1)) | ((with_reducible refine gate_dst (N := 18) rfl ?_); refine box_event ?hg (N := 18) ?hd (cs := #[.int .i64 0, .int .i64 0, .int .i64 0, .slice none 0 0, .slice none 0 0]) (t := 63) ?hr ?_; (case hd => rfl); (case hg => rfl); (case hr => (go_simp; done)); intro gb451 hg w29 hbox hb; have n0_ := Aside0.mk (Kd.V_below (Kd.V_elderB HO415.out gb451 (Nat.le_of_eq hg.symm)) hb); have n1_ := Aside0.mk (Kd.V_below (Kd.V_elderB HO420.out gb451 (Nat.le_of_eq hg.symm)) hb); have n2_ := Aside0.mk (Kd.N_below (Kd.N_elderB HO428.out gb451 (Nat.le_of_eq hg.symm)) hb); have n3_ := Aside0.mk (Kd.V_below (Kd.V_elderB HO434.out gb451 (Nat.le_of_eq hg.symm)) hb); have n4_ := Aside0.mk (Kd.V_below (Kd.V_elderB HO437.out gb451 (Nat.le_of_eq hg.symm)) hb); have n5_ := Aside0.mk (Kd.V_below (Kd.V_elderB HO446.out gb451 (Nat.le_of_eq hg.symm)) hb); have n6_ := Aside0.mk (Kd.V_below (Kd.V_elderB HO449.out gb451 (Nat.le_of_eq hg.symm)) hb); have n9_ := Aside0.mk (hbox); have n10_ := Aside0.mk ((by rw [hg]; exact (below_size HB.out) : w.heap.size ≤ gb451)); have n11_ := Aside0.mk ((by rw [hg]; exact (below_size HB.out) : w.heap.size ≤ gb451)); have n12_ := Aside0.mk ((by rw [hg]; exact Nat.ne_of_lt (blk_lt BK439.out) : gb439 ≠ gb451)); have n13_ := Aside0.mk ((by rw [hg]; exact Nat.ne_of_gt (blk_lt BK439.out) : gb451 ≠ gb439)); clear HO415 HO420 HO428 HO434 HO437 HO446 HO449; have HO415 := n0_; have HO420 := n1_; have HO428 := n2_; have HO434 := n3_; have HO437 := n4_; have HO446 := n5_; have HO449 := n6_; have BK451 := n9_; have GW451 := n10_; have GE451 := n11_; have NB439_451 := n12_; have NB451_439 := n13_; clear n0_ n1_ n2_ n3_ n4_ n5_ n6_ n9_ n10_ n11_ n12_ n13_; replace BK439 := kb_ BK439 hb; replace HB := hb_ HB hb; clear hb hbox hg; have hnb30 := NB451_439.out; have hnc30 := NB439_451.out; obtain ⟨hcz31_0, hcz31_1, hcz31_2, hcz31_3, hcz31_4, hfz31_0, hfz31_1, hfz31_2, hfz31_3, hfz31_4⟩ := bk5_ BK451.out; obtain ⟨Ao32, co32, eo32⟩ := Kd.V_slice HO446.out; subst eo32; obtain ⟨Ao33, co33, eo33⟩ := Kd.V_slice HO449.out; subst eo33))
   (try simp only [Act.put, sbA, sbB, sbC])
   go_cut [105] (fun v105 wc => ∃ (kq : Nat) (x105_15 : Bool), v105 = .bool x105_15 ∧ Aside0 (remontoirlaw18_PortSends.j0 kq l0 a2 t413 t418 t426 t438 t450 x105_15 t429 t430 t431 t432 t435 t441 t442 t443 t444 t447 = some true) ∧ Aside0 (kq ≤ k) ∧ Aside0 (Kd.V k76 76 wc w.heap.size (fun k_ => some k_ ≠ ((.slice Ao21 t426.length co21) : Value).ownBlock ∧ k_ ≠ gb439 ∧ k_ ≠ gb451) v414 t413) ∧ Aside0 (Kd.V k76 76 wc w.heap.size (fun k_ => some k_ ≠ ((.slice Ao21 t426.length co21) : Value).ownBlock ∧ k_ ≠ gb439 ∧ k_ ≠ gb451) v419 t418) ∧ Aside0 (Kd.N k63 63 wc w.heap.size (fun k_ => k_ ≠ gb439 ∧ k_ ≠ gb451) (.slice Ao21 t426.length co21) t426) ∧ Aside0 (Kd.V (Kd.int .i64) 3 wc w.heap.size (fun k_ => k_ ≠ gb439 ∧ k_ ≠ gb451) (.slice Ao25 t432.length co25) t432) ∧ Aside0 (Kd.V (Kd.int .i64) 3 wc w.heap.size (fun k_ => k_ ≠ gb439 ∧ k_ ≠ gb451) (.slice Ao26 t435.length co26) t435) ∧ Aside0 (Kd.V (Kd.int .i64) 3 wc w.heap.size (fun k_ => k_ ≠ gb439 ∧ k_ ≠ gb451) (.slice Ao32 t444.length co32) t444) ∧ Aside0 (Kd.V (Kd.int .i64) 3 wc w.heap.size (fun k_ => k_ ≠ gb439 ∧ k_ ≠ gb451) (.slice Ao33 t447.length co33) t447) ∧ Aside0 (wc.heap[gb439]? = some (.cells #[.int .i64 t429, .int .i64 t430, .int .i64 t431, (.slice Ao25 t432.length co25), (.slice Ao26 t435.length co26)] 63 (0, 0))) ∧ Aside0 (wc.heap[gb451]? = some (.cells #[.int .i64 t441, .int .i64 t442, .int .i64 t443, (.slice Ao32 t444.length co32), (.slice Ao33 t447.length co33)] 63 (0, 0))) ∧ Aside0 (Below w.heap.size w wc))
   case first =>
    have H := HC16.out
    clear HC16
    by_cases c34 : t416 = t438
    ·
     rw [if_pos c34] at H
     have c34b0 : (t416 == t438) = true := beq_iff_eq.mpr c34
     have c34b1 : (t416 != t438) = false := bne_eq_false_iff_eq.mpr c34
     clear c34
     (skip)
     by_cases c35 : t421 = t450
     ·
      rw [if_pos c35] at H
      have c35b0 : (t421 == t450) = true := beq_iff_eq.mpr c35
      have c35b1 : (t421 != t450) = false := bne_eq_false_iff_eq.mpr c35
      clear c35
      by_cases c36 : t417 = t440
      ·
       rw [if_pos c36] at H
       have c36b0 : (t417 == t440) = true := beq_iff_eq.mpr c36
       have c36b1 : (t417 != t440) = false := bne_eq_false_iff_eq.mpr c36
       clear c36
       replace H := Option.bind_eq_some_iff.mp H
       obtain ⟨t452, A370, H⟩ := H
       replace H : (if t452 = true then ((remontoirlaw18_right.f k t418).bind fun t453 => (remontoirlaw18_PortSends.j0 k l0 a2 t413 t418 t426 t438 t450 (!t453) t429 t430 t431 t432 t435 t441 t442 t443 t444 t447)) else (remontoirlaw18_PortSends.j0 k l0 a2 t413 t418 t426 t438 t450 true t429 t430 t431 t432 t435 t441 t442 t443 t444 t447)) = some true := H
       have A37 := Aside0.mk A370
       clear A370
       by_cases c38 : t452 = true
       ·
        subst c38
        have H1 : ((remontoirlaw18_right.f k t418).bind fun t453 => (remontoirlaw18_PortSends.j0 k l0 a2 t413 t418 t426 t438 t450 (!t453) t429 t430 t431 t432 t435 t441 t442 t443 t444 t447)) = some true := by rw [if_pos rfl] at H; exact H
        clear H
        have H := H1
        clear H1
        replace H := Option.bind_eq_some_iff.mp H
        obtain ⟨t453, A390, H⟩ := H
        replace H : (remontoirlaw18_PortSends.j0 k l0 a2 t413 t418 t426 t438 t450 (!t453) t429 t430 t431 t432 t435 t441 t442 t443 t444 t447) = some true := H
        have A39 := Aside0.mk A390
        clear A390
        have H' := Aside0.mk H
        clear H
        obtain ⟨Ao40, co40, eo40⟩ := Kd.V_slice HO415.out
        subst eo40
        go_wp2_with (first | (go_at_call 33; (with_reducible refine (remontoirlaw18_right.calls k _ _ t413 true _ ?side1 ?side2 A37.out).mono ?_); (case side1 => refine (Kd.V_reads' (e := 76) (base := w.heap.size) (ok := fun k_ => ((some k_ ≠ (.slice Ao21 t426.length co21 : Value).ownBlock ∧ k_ ≠ gb439) ∧ k_ ≠ gb451)) (n := t413.length) (c := co40) ?_).2.2; exact (by exact (Kd.V_mono (vf5_ (Kd.V_mono HO415.out (fun k_ hk => (⟨hk, hk.2⟩ : _ ∧ k_ ≠ gb451))) (fun _ hk => hk.2)) (fun _ h_ => h_.1)))); (case side2 => exact (Kd.V_reads' HO415.out).2.1); rintro e w41 ⟨rfl, hb⟩; have n0_ := Aside0.mk (Kd.V_below (by exact (Kd.V_mono (vf5_ (Kd.V_mono HO415.out (fun k_ hk => (⟨hk, hk.2⟩ : _ ∧ k_ ≠ gb451))) (fun _ hk => hk.2)) (fun _ h_ => h_.1))) hb); have n1_ := Aside0.mk (Kd.V_below (by exact (Kd.V_mono (vf5_ (Kd.V_mono HO420.out (fun k_ hk => (⟨hk, hk.2⟩ : _ ∧ k_ ≠ gb451))) (fun _ hk => hk.2)) (fun _ h_ => h_.1))) hb); have n2_ := Aside0.mk (Kd.N_below (by exact (Kd.N_mono (Kd.N_far (p := ⟨gb451, 4, none⟩) (Kd.N_far (p := ⟨gb451, 3, none⟩) (Kd.N_far (p := ⟨gb451, 2, none⟩) (Kd.N_far (p := ⟨gb451, 1, none⟩) (Kd.N_far (p := ⟨gb451, 0, none⟩) (Kd.N_mono HO428.out (fun k_ hk => (⟨hk, hk.2⟩ : _ ∧ k_ ≠ gb451))) (fun _ hk => hk.2) (.int .i64 t441)) (fun _ hk => hk.2) (.int .i64 t442)) (fun _ hk => hk.2) (.int .i64 t443)) (fun _ hk => hk.2) (.slice Ao32 t444.length co32)) (fun _ hk => hk.2) (.slice Ao33 t447.length co33)) (fun _ h_ => h_.1))) hb); have n3_ := Aside0.mk (Kd.V_below (by exact (Kd.V_mono (vf5_ (Kd.V_mono HO434.out (fun k_ hk => (⟨hk, hk.2⟩ : _ ∧ k_ ≠ gb451))) (fun _ hk => hk.2)) (fun _ h_ => h_.1))) hb); have n4_ := Aside0.mk (Kd.V_below (by exact (Kd.V_mono (vf5_ (Kd.V_mono HO437.out (fun k_ hk => (⟨hk, hk.2⟩ : _ ∧ k_ ≠ gb451))) (fun _ hk => hk.2)) (fun _ h_ => h_.1))) hb); have n5_ := Aside0.mk (Kd.V_below (by exact (Kd.V_mono (vf5_ (Kd.V_mono HO446.out (fun k_ hk => (⟨hk, hk.2⟩ : _ ∧ k_ ≠ gb451))) (fun _ hk => hk.2)) (fun _ h_ => h_.1))) hb); have n6_ := Aside0.mk (Kd.V_below (by exact (Kd.V_mono (vf5_ (Kd.V_mono HO449.out (fun k_ hk => (⟨hk, hk.2⟩ : _ ∧ k_ ≠ gb451))) (fun _ hk => hk.2)) (fun _ h_ => h_.1))) hb); have n7_ := Aside0.mk (blk_below (g := gb439) (o := .cells #[.int .i64 t429, .int .i64 t430, .int .i64 t431, .slice Ao25 t432.length co25, .slice Ao26 t435.length co26] 63 (0, 0)) (by refine blk_far ?_ NB439_451.out _; refine blk_far ?_ NB439_451.out _; refine blk_far ?_ NB439_451.out _; refine blk_far ?_ NB439_451.out _; refine blk_far ?_ NB439_451.out _; exact BK439.out) hb); have n8_ := Aside0.mk (blk_below (g := gb451) (o := .cells #[.int .i64 t441, .int .i64 t442, .int .i64 t443, .slice Ao32 t444.length co32, .slice Ao33 t447.length co33] 63 (0, 0)) (by exact bp5_ BK451.out) hb); have n9_ := Aside0.mk (below_step (by repeat ((with_reducible first | exact HB.out | refine below_set ?_ GE451.out))) hb); clear HO415 HO420 HO428 HO434 HO437 HO446 HO449 BK439 BK451 HB; have HO415 := n0_; have HO420 := n1_; have HO428 := n2_; have HO434 := n3_; have HO437 := n4_; have HO446 := n5_; have HO449 := n6_; have BK439 := n7_; have BK451 := n8_; have HB := n9_; clear n0_ n1_ n2_ n3_ n4_ n5_ n6_ n7_ n8_ n9_; (try clear hb); (try clear hb2); (try clear hk); (try clear hi); obtain ⟨Ao42, co42, eo42⟩ := Kd.V_slice HO420.out; subst eo42) | (go_at_call 33; (with_reducible refine (remontoirlaw18_right.calls k _ _ t418 t453 _ ?side1 ?side2 A39.out).mono ?_); (case side1 => repeat ((exact (Kd.V_reads' HO420.out).2.2))); (case side2 => exact (Kd.V_reads' HO420.out).2.1); rintro e w43 ⟨rfl, hb⟩; replace HO415 := vb_ HO415 hb; replace HO420 := vb_ HO420 hb; replace HO428 := nb_ HO428 hb; replace HO434 := vb_ HO434 hb; replace HO437 := vb_ HO437 hb; replace HO446 := vb_ HO446 hb; replace HO449 := vb_ HO449 hb; replace BK439 := kb_ BK439 hb; replace BK451 := kb_ BK451 hb; replace HB := hb_ HB hb; (try clear hb); (try clear hb2); (try clear hk); (try clear hi)))
        go_meet
        case rel => exact ⟨_, (!t453), (by rfl), H', ⟨by omega⟩, ⟨by exact Kd.V_mono HO415.out (fun _ hk => ⟨hk.1.1, ⟨hk.1.2, hk.2⟩⟩)⟩, ⟨by exact Kd.V_mono HO420.out (fun _ hk => ⟨hk.1.1, ⟨hk.1.2, hk.2⟩⟩)⟩, ⟨HO428.out⟩, ⟨HO434.out⟩, ⟨HO437.out⟩, ⟨HO446.out⟩, ⟨HO449.out⟩, ⟨BK439.out⟩, ⟨BK451.out⟩, ⟨HB.out⟩⟩
       ·
        replace c38 := Bool.eq_false_iff.mpr c38
        subst c38
        have H1 : (remontoirlaw18_PortSends.j0 k l0 a2 t413 t418 t426 t438 t450 true t429 t430 t431 t432 t435 t441 t442 t443 t444 t447) = some true := by rw [if_neg (show ¬ (false = true) by decide)] at H; exact H
        clear H
        have H := H1
        clear H1
        have H' := Aside0.mk H
        clear H
        obtain ⟨Ao44, co44, eo44⟩ := Kd.V_slice HO415.out
        subst eo44
        go_wp2_with ((go_at_call 33; (with_reducible refine (remontoirlaw18_right.calls k _ _ t413 false _ ?side1 ?side2 A37.out).mono ?_); (case side1 => refine (Kd.V_reads' (e := 76) (base := w.heap.size) (ok := fun k_ => ((some k_ ≠ (.slice Ao21 t426.length co21 : Value).ownBlock ∧ k_ ≠ gb439) ∧ k_ ≠ gb451)) (n := t413.length) (c := co44) ?_).2.2; exact (by exact (Kd.V_mono (vf5_ (Kd.V_mono HO415.out (fun k_ hk => (⟨hk, hk.2⟩ : _ ∧ k_ ≠ gb451))) (fun _ hk => hk.2)) (fun _ h_ => h_.1)))); (case side2 => exact (Kd.V_reads' HO415.out).2.1); rintro e w45 ⟨rfl, hb⟩; have n0_ := Aside0.mk (Kd.V_below (by exact (Kd.V_mono (vf5_ (Kd.V_mono HO415.out (fun k_ hk => (⟨hk, hk.2⟩ : _ ∧ k_ ≠ gb451))) (fun _ hk => hk.2)) (fun _ h_ => h_.1))) hb); have n1_ := Aside0.mk (Kd.V_below (by exact (Kd.V_mono (vf5_ (Kd.V_mono HO420.out (fun k_ hk => (⟨hk, hk.2⟩ : _ ∧ k_ ≠ gb451))) (fun _ hk => hk.2)) (fun _ h_ => h_.1))) hb); have n2_ := Aside0.mk (Kd.N_below (by exact (Kd.N_mono (Kd.N_far (p := ⟨gb451, 4, none⟩) (Kd.N_far (p := ⟨gb451, 3, none⟩) (Kd.N_far (p := ⟨gb451, 2, none⟩) (Kd.N_far (p := ⟨gb451, 1, none⟩) (Kd.N_far (p := ⟨gb451, 0, none⟩) (Kd.N_mono HO428.out (fun k_ hk => (⟨hk, hk.2⟩ : _ ∧ k_ ≠ gb451))) (fun _ hk => hk.2) (.int .i64 t441)) (fun _ hk => hk.2) (.int .i64 t442)) (fun _ hk => hk.2) (.int .i64 t443)) (fun _ hk => hk.2) (.slice Ao32 t444.length co32)) (fun _ hk => hk.2) (.slice Ao33 t447.length co33)) (fun _ h_ => h_.1))) hb); have n3_ := Aside0.mk (Kd.V_below (by exact (Kd.V_mono (vf5_ (Kd.V_mono HO434.out (fun k_ hk => (⟨hk, hk.2⟩ : _ ∧ k_ ≠ gb451))) (fun _ hk => hk.2)) (fun _ h_ => h_.1))) hb); have n4_ := Aside0.mk (Kd.V_below (by exact (Kd.V_mono (vf5_ (Kd.V_mono HO437.out (fun k_ hk => (⟨hk, hk.2⟩ : _ ∧ k_ ≠ gb451))) (fun _ hk => hk.2)) (fun _ h_ => h_.1))) hb); have n5_ := Aside0.mk (Kd.V_below (by exact (Kd.V_mono (vf5_ (Kd.V_mono HO446.out (fun k_ hk => (⟨hk, hk.2⟩ : _ ∧ k_ ≠ gb451))) (fun _ hk => hk.2)) (fun _ h_ => h_.1))) hb); have n6_ := Aside0.mk (Kd.V_below (by exact (Kd.V_mono (vf5_ (Kd.V_mono HO449.out (fun k_ hk => (⟨hk, hk.2⟩ : _ ∧ k_ ≠ gb451))) (fun _ hk => hk.2)) (fun _ h_ => h_.1))) hb); have n7_ := Aside0.mk (blk_below (g := gb439) (o := .cells #[.int .i64 t429, .int .i64 t430, .int .i64 t431, .slice Ao25 t432.length co25, .slice Ao26 t435.length co26] 63 (0, 0)) (by refine blk_far ?_ NB439_451.out _; refine blk_far ?_ NB439_451.out _; refine blk_far ?_ NB439_451.out _; refine blk_far ?_ NB439_451.out _; refine blk_far ?_ NB439_451.out _; exact BK439.out) hb); have n8_ := Aside0.mk (blk_below (g := gb451) (o := .cells #[.int .i64 t441, .int .i64 t442, .int .i64 t443, .slice Ao32 t444.length co32, .slice Ao33 t447.length co33] 63 (0, 0)) (by exact bp5_ BK451.out) hb); have n9_ := Aside0.mk (below_step (by repeat ((with_reducible first | exact HB.out | refine below_set ?_ GE451.out))) hb); clear HO415 HO420 HO428 HO434 HO437 HO446 HO449 BK439 BK451 HB; have HO415 := n0_; have HO420 := n1_; have HO428 := n2_; have HO434 := n3_; have HO437 := n4_; have HO446 := n5_; have HO449 := n6_; have BK439 := n7_; have BK451 := n8_; have HB := n9_; clear n0_ n1_ n2_ n3_ n4_ n5_ n6_ n7_ n8_ n9_; (try clear hb); (try clear hb2); (try clear hk); (try clear hi)))
        go_meet
        case rel => exact ⟨_, (true), (by rfl), H', ⟨by omega⟩, ⟨by exact Kd.V_mono HO415.out (fun _ hk => ⟨hk.1.1, ⟨hk.1.2, hk.2⟩⟩)⟩, ⟨by exact Kd.V_mono HO420.out (fun _ hk => ⟨hk.1.1, ⟨hk.1.2, hk.2⟩⟩)⟩, ⟨HO428.out⟩, ⟨HO434.out⟩, ⟨HO437.out⟩, ⟨HO446.out⟩, ⟨HO449.out⟩, ⟨BK439.out⟩, ⟨BK451.out⟩, ⟨HB.out⟩⟩
      ·
       rw [if_neg c36] at H
       have c36b0 : (t417 == t440) = false := beq_eq_false_iff_ne.mpr c36
       have c36b1 : (t417 != t440) = true := bne_iff_ne.mpr c36
       have H' := Aside0.mk H
       clear H
       go_wp2
       go_meet
       case rel => exact ⟨_, (true), (by rfl), H', ⟨by omega⟩, ⟨by exact Kd.V_mono (vf5_ (Kd.V_mono HO415.out (fun k_ hk => (⟨hk, hk.2⟩ : _ ∧ k_ ≠ gb451))) (fun _ hk => hk.2)) (fun _ hk => ⟨hk.1.1.1, ⟨hk.1.1.2, hk.1.2⟩⟩)⟩, ⟨by exact Kd.V_mono (vf5_ (Kd.V_mono HO420.out (fun k_ hk => (⟨hk, hk.2⟩ : _ ∧ k_ ≠ gb451))) (fun _ hk => hk.2)) (fun _ hk => ⟨hk.1.1.1, ⟨hk.1.1.2, hk.1.2⟩⟩)⟩, ⟨by exact Kd.N_mono (Kd.N_far (p := ⟨gb451, 4, none⟩) (Kd.N_far (p := ⟨gb451, 3, none⟩) (Kd.N_far (p := ⟨gb451, 2, none⟩) (Kd.N_far (p := ⟨gb451, 1, none⟩) (Kd.N_far (p := ⟨gb451, 0, none⟩) (Kd.N_mono HO428.out (fun k_ hk => (⟨hk, hk.2⟩ : _ ∧ k_ ≠ gb451))) (fun _ hk => hk.2) (.int .i64 t441)) (fun _ hk => hk.2) (.int .i64 t442)) (fun _ hk => hk.2) (.int .i64 t443)) (fun _ hk => hk.2) (.slice Ao32 t444.length co32)) (fun _ hk => hk.2) (.slice Ao33 t447.length co33)) (fun _ hk => ⟨hk.1.1, hk.1.2⟩)⟩, ⟨by exact Kd.V_mono (vf5_ (Kd.V_mono HO434.out (fun k_ hk => (⟨hk, hk.2⟩ : _ ∧ k_ ≠ gb451))) (fun _ hk => hk.2)) (fun _ hk => ⟨hk.1.1, hk.1.2⟩)⟩, ⟨by exact Kd.V_mono (vf5_ (Kd.V_mono HO437.out (fun k_ hk => (⟨hk, hk.2⟩ : _ ∧ k_ ≠ gb451))) (fun _ hk => hk.2)) (fun _ hk => ⟨hk.1.1, hk.1.2⟩)⟩, ⟨by exact Kd.V_mono (vf5_ (Kd.V_mono HO446.out (fun k_ hk => (⟨hk, hk.2⟩ : _ ∧ k_ ≠ gb451))) (fun _ hk => hk.2)) (fun _ hk => ⟨hk.1.1, hk.1.2⟩)⟩, ⟨by exact Kd.V_mono (vf5_ (Kd.V_mono HO449.out (fun k_ hk => (⟨hk, hk.2⟩ : _ ∧ k_ ≠ gb451))) (fun _ hk => hk.2)) (fun _ hk => ⟨hk.1.1, hk.1.2⟩)⟩, ⟨by refine blk_far ?_ NB439_451.out _; refine blk_far ?_ NB439_451.out _; refine blk_far ?_ NB439_451.out _; refine blk_far ?_ NB439_451.out _; refine blk_far ?_ NB439_451.out _; exact BK439.out⟩, ⟨by exact bp5_ BK451.out⟩, ⟨by repeat ((with_reducible first | exact HB.out | refine below_set ?_ GE451.out))⟩⟩
     ·
      rw [if_neg c35] at H
      have c35b0 : (t421 == t450) = false := beq_eq_false_iff_ne.mpr c35
      have c35b1 : (t421 != t450) = true := bne_iff_ne.mpr c35
      have H' := Aside0.mk H
      clear H
      go_wp2
      go_meet
      case rel => exact ⟨_, (true), (by rfl), H', ⟨by omega⟩, ⟨by exact Kd.V_mono (vf5_ (Kd.V_mono HO415.out (fun k_ hk => (⟨hk, hk.2⟩ : _ ∧ k_ ≠ gb451))) (fun _ hk => hk.2)) (fun _ hk => ⟨hk.1.1.1, ⟨hk.1.1.2, hk.1.2⟩⟩)⟩, ⟨by exact Kd.V_mono (vf5_ (Kd.V_mono HO420.out (fun k_ hk => (⟨hk, hk.2⟩ : _ ∧ k_ ≠ gb451))) (fun _ hk => hk.2)) (fun _ hk => ⟨hk.1.1.1, ⟨hk.1.1.2, hk.1.2⟩⟩)⟩, ⟨by exact Kd.N_mono (Kd.N_far (p := ⟨gb451, 4, none⟩) (Kd.N_far (p := ⟨gb451, 3, none⟩) (Kd.N_far (p := ⟨gb451, 2, none⟩) (Kd.N_far (p := ⟨gb451, 1, none⟩) (Kd.N_far (p := ⟨gb451, 0, none⟩) (Kd.N_mono HO428.out (fun k_ hk => (⟨hk, hk.2⟩ : _ ∧ k_ ≠ gb451))) (fun _ hk => hk.2) (.int .i64 t441)) (fun _ hk => hk.2) (.int .i64 t442)) (fun _ hk => hk.2) (.int .i64 t443)) (fun _ hk => hk.2) (.slice Ao32 t444.length co32)) (fun _ hk => hk.2) (.slice Ao33 t447.length co33)) (fun _ hk => ⟨hk.1.1, hk.1.2⟩)⟩, ⟨by exact Kd.V_mono (vf5_ (Kd.V_mono HO434.out (fun k_ hk => (⟨hk, hk.2⟩ : _ ∧ k_ ≠ gb451))) (fun _ hk => hk.2)) (fun _ hk => ⟨hk.1.1, hk.1.2⟩)⟩, ⟨by exact Kd.V_mono (vf5_ (Kd.V_mono HO437.out (fun k_ hk => (⟨hk, hk.2⟩ : _ ∧ k_ ≠ gb451))) (fun _ hk => hk.2)) (fun _ hk => ⟨hk.1.1, hk.1.2⟩)⟩, ⟨by exact Kd.V_mono (vf5_ (Kd.V_mono HO446.out (fun k_ hk => (⟨hk, hk.2⟩ : _ ∧ k_ ≠ gb451))) (fun _ hk => hk.2)) (fun _ hk => ⟨hk.1.1, hk.1.2⟩)⟩, ⟨by exact Kd.V_mono (vf5_ (Kd.V_mono HO449.out (fun k_ hk => (⟨hk, hk.2⟩ : _ ∧ k_ ≠ gb451))) (fun _ hk => hk.2)) (fun _ hk => ⟨hk.1.1, hk.1.2⟩)⟩, ⟨by refine blk_far ?_ NB439_451.out _; refine blk_far ?_ NB439_451.out _; refine blk_far ?_ NB439_451.out _; refine blk_far ?_ NB439_451.out _; refine blk_far ?_ NB439_451.out _; exact BK439.out⟩, ⟨by exact bp5_ BK451.out⟩, ⟨by repeat ((with_reducible first | exact HB.out | refine below_set ?_ GE451.out))⟩⟩
    ·
     rw [if_neg c34] at H
     have c34b0 : (t416 == t438) = false := beq_eq_false_iff_ne.mpr c34
     have c34b1 : (t416 != t438) = true := bne_iff_ne.mpr c34
     (skip)
     have H' := Aside0.mk H
     clear H
     go_wp2
     go_meet
     case rel => exact ⟨_, (true), (by rfl), H', ⟨by omega⟩, ⟨by exact Kd.V_mono (vf5_ (Kd.V_mono HO415.out (fun k_ hk => (⟨hk, hk.2⟩ : _ ∧ k_ ≠ gb451))) (fun _ hk => hk.2)) (fun _ hk => ⟨hk.1.1.1, ⟨hk.1.1.2, hk.1.2⟩⟩)⟩, ⟨by exact Kd.V_mono (vf5_ (Kd.V_mono HO420.out (fun k_ hk => (⟨hk, hk.2⟩ : _ ∧ k_ ≠ gb451))) (fun _ hk => hk.2)) (fun _ hk => ⟨hk.1.1.1, ⟨hk.1.1.2, hk.1.2⟩⟩)⟩, ⟨by exact Kd.N_mono (Kd.N_far (p := ⟨gb451, 4, none⟩) (Kd.N_far (p := ⟨gb451, 3, none⟩) (Kd.N_far (p := ⟨gb451, 2, none⟩) (Kd.N_far (p := ⟨gb451, 1, none⟩) (Kd.N_far (p := ⟨gb451, 0, none⟩) (Kd.N_mono HO428.out (fun k_ hk => (⟨hk, hk.2⟩ : _ ∧ k_ ≠ gb451))) (fun _ hk => hk.2) (.int .i64 t441)) (fun _ hk => hk.2) (.int .i64 t442)) (fun _ hk => hk.2) (.int .i64 t443)) (fun _ hk => hk.2) (.slice Ao32 t444.length co32)) (fun _ hk => hk.2) (.slice Ao33 t447.length co33)) (fun _ hk => ⟨hk.1.1, hk.1.2⟩)⟩, ⟨by exact Kd.V_mono (vf5_ (Kd.V_mono HO434.out (fun k_ hk => (⟨hk, hk.2⟩ : _ ∧ k_ ≠ gb451))) (fun _ hk => hk.2)) (fun _ hk => ⟨hk.1.1, hk.1.2⟩)⟩, ⟨by exact Kd.V_mono (vf5_ (Kd.V_mono HO437.out (fun k_ hk => (⟨hk, hk.2⟩ : _ ∧ k_ ≠ gb451))) (fun _ hk => hk.2)) (fun _ hk => ⟨hk.1.1, hk.1.2⟩)⟩, ⟨by exact Kd.V_mono (vf5_ (Kd.V_mono HO446.out (fun k_ hk => (⟨hk, hk.2⟩ : _ ∧ k_ ≠ gb451))) (fun _ hk => hk.2)) (fun _ hk => ⟨hk.1.1, hk.1.2⟩)⟩, ⟨by exact Kd.V_mono (vf5_ (Kd.V_mono HO449.out (fun k_ hk => (⟨hk, hk.2⟩ : _ ∧ k_ ≠ gb451))) (fun _ hk => hk.2)) (fun _ hk => ⟨hk.1.1, hk.1.2⟩)⟩, ⟨by refine blk_far ?_ NB439_451.out _; refine blk_far ?_ NB439_451.out _; refine blk_far ?_ NB439_451.out _; refine blk_far ?_ NB439_451.out _; refine blk_far ?_ NB439_451.out _; exact BK439.out⟩, ⟨by exact bp5_ BK451.out⟩, ⟨by repeat ((with_reducible first | exact HB.out | refine below_set ?_ GE451.out))⟩⟩
   case rest =>
    clear HC16
    try clear c1
    try clear c2
    try clear p2
    try clear c3
    try clear c6
    try clear c9
    try clear c12
    try clear c27
    try clear c28
    try clear c29
    try clear c30
    try clear c32
    try clear c33
    try clear c34
    try clear c34b0
    try clear c34b1
    try clear c35
    try clear c35b0
    try clear c35b1
    try clear c36
    try clear c36b0
    try clear c36b1
    try clear c37
    try clear c38
    try clear hcz24_0
    try clear hcz24_1
    try clear hcz24_2
    try clear hcz24_3
    try clear hcz24_4
    try clear hcz31_0
    try clear hcz31_1
    try clear hcz31_2
    try clear hcz31_3
    try clear hcz31_4
    try clear hfz24_0
    try clear hfz24_1
    try clear hfz24_2
    try clear hfz24_3
    try clear hfz24_4
    try clear hfz31_0
    try clear hfz31_1
    try clear hfz31_2
    try clear hfz31_3
    try clear hfz31_4
    obtain ⟨kq, x105_15, rfl, HA, HJ15, HO_9, HO_12, HO_14, HO_440003, HO_440004, HO_452003, HO_452004, BK439, BK451, HB⟩ := hcut
    cases kq with
    | zero => exact absurd HA.out (by simp [remontoirlaw18_PortSends.j0])
    | succ kj15 =>
     have H := HA.out
     clear HA
     simp only [remontoirlaw18_PortSends.j0] at H
     by_cases c46 : x105_15 = true
     ·
      subst c46
      have H1 : (some false) = some true := by rw [if_pos rfl] at H; exact H
      clear H
      have H := H1
      clear H1
      exact absurd H (by simp)
     ·
      replace c46 := Bool.eq_false_iff.mpr c46
      subst c46
      have H1 : (if t438 = 0 then (if t450 = 0 then (remontoirlaw18_PortSends.j1 kj15 a2 t413 t418 t426 t438 t450 false t429 t430 t431 t432 t435 t441 t442 t443 t444 t447) else ((remontoirlaw18_stays.f kj15 t418 l0).bind fun t454 => (remontoirlaw18_PortSends.j1 kj15 a2 t413 t418 t426 t438 t450 (!t454) t429 t430 t431 t432 t435 t441 t442 t443 t444 t447))) else ((remontoirlaw18_stays.f kj15 t413 l0).bind fun t455 => (if t455 = true then (if t450 = 0 then (remontoirlaw18_PortSends.j1 kj15 a2 t413 t418 t426 t438 t450 false t429 t430 t431 t432 t435 t441 t442 t443 t444 t447) else ((remontoirlaw18_stays.f kj15 t418 l0).bind fun t456 => (remontoirlaw18_PortSends.j1 kj15 a2 t413 t418 t426 t438 t450 (!t456) t429 t430 t431 t432 t435 t441 t442 t443 t444 t447))) else (remontoirlaw18_PortSends.j1 kj15 a2 t413 t418 t426 t438 t450 true t429 t430 t431 t432 t435 t441 t442 t443 t444 t447)))) = some true := by rw [if_neg (show ¬ (false = true) by decide)] at H; exact H
      clear H
      have H := H1
      clear H1
      have HC47 := Aside0.mk H
      clear H
      go_upto_region 12 with (fail)
      go_cut [123] (fun v123 wc => ∃ (kq : Nat) (x123_46 : Bool), v123 = .bool x123_46 ∧ Aside0 (remontoirlaw18_PortSends.j1 kq a2 t413 t418 t426 t438 t450 x123_46 t429 t430 t431 t432 t435 t441 t442 t443 t444 t447 = some true) ∧ Aside0 (kq ≤ kj15) ∧ Aside0 (Kd.V k76 76 wc w.heap.size (fun k_ => some k_ ≠ ((.slice Ao21 t426.length co21) : Value).ownBlock ∧ k_ ≠ gb439 ∧ k_ ≠ gb451) v414 t413) ∧ Aside0 (Kd.V k76 76 wc w.heap.size (fun k_ => some k_ ≠ ((.slice Ao21 t426.length co21) : Value).ownBlock ∧ k_ ≠ gb439 ∧ k_ ≠ gb451) v419 t418) ∧ Aside0 (Kd.N k63 63 wc w.heap.size (fun k_ => k_ ≠ gb439 ∧ k_ ≠ gb451) (.slice Ao21 t426.length co21) t426) ∧ Aside0 (Kd.V (Kd.int .i64) 3 wc w.heap.size (fun k_ => k_ ≠ gb439 ∧ k_ ≠ gb451) (.slice Ao25 t432.length co25) t432) ∧ Aside0 (Kd.V (Kd.int .i64) 3 wc w.heap.size (fun k_ => k_ ≠ gb439 ∧ k_ ≠ gb451) (.slice Ao26 t435.length co26) t435) ∧ Aside0 (Kd.V (Kd.int .i64) 3 wc w.heap.size (fun k_ => k_ ≠ gb439 ∧ k_ ≠ gb451) (.slice Ao32 t444.length co32) t444) ∧ Aside0 (Kd.V (Kd.int .i64) 3 wc w.heap.size (fun k_ => k_ ≠ gb439 ∧ k_ ≠ gb451) (.slice Ao33 t447.length co33) t447) ∧ Aside0 (wc.heap[gb439]? = some (.cells #[.int .i64 t429, .int .i64 t430, .int .i64 t431, (.slice Ao25 t432.length co25), (.slice Ao26 t435.length co26)] 63 (0, 0))) ∧ Aside0 (wc.heap[gb451]? = some (.cells #[.int .i64 t441, .int .i64 t442, .int .i64 t443, (.slice Ao32 t444.length co32), (.slice Ao33 t447.length co33)] 63 (0, 0))) ∧ Aside0 (Below w.heap.size w wc))
      case first =>
       have H := HC47.out
       clear HC47
       by_cases c48 : t438 = 0
       ·
        rw [if_pos c48] at H
        have c48b0 : (t438 == 0) = true := beq_iff_eq.mpr c48
        have c48b1 : (t438 != 0) = false := bne_eq_false_iff_eq.mpr c48
        clear c48
        (skip)
        by_cases c49 : t450 = 0
        ·
         rw [if_pos c49] at H
         have c49b0 : (t450 == 0) = true := beq_iff_eq.mpr c49
         have c49b1 : (t450 != 0) = false := bne_eq_false_iff_eq.mpr c49
         clear c49
         have H' := Aside0.mk H
         clear H
         go_wp2
         go_meet
         case rel => exact ⟨_, (false), (by rfl), H', ⟨by have := HJ15.out; omega⟩, ⟨HO_9.out⟩, ⟨HO_12.out⟩, ⟨HO_14.out⟩, ⟨HO_440003.out⟩, ⟨HO_440004.out⟩, ⟨HO_452003.out⟩, ⟨HO_452004.out⟩, ⟨BK439.out⟩, ⟨BK451.out⟩, ⟨HB.out⟩⟩
        ·
         rw [if_neg c49] at H
         have c49b0 : (t450 == 0) = false := beq_eq_false_iff_ne.mpr c49
         have c49b1 : (t450 != 0) = true := bne_iff_ne.mpr c49
         replace H := Option.bind_eq_some_iff.mp H
         obtain ⟨t454, A500, H⟩ := H
         replace H : (remontoirlaw18_PortSends.j1 kj15 a2 t413 t418 t426 t438 t450 (!t454) t429 t430 t431 t432 t435 t441 t442 t443 t444 t447) = some true := H
         have A50 := Aside0.mk A500
         clear A500
         have H' := Aside0.mk H
         clear H
         obtain ⟨Ao51, co51, eo51⟩ := Kd.V_slice HO_12.out
         subst eo51
         go_wp2_with ((go_at_call 34; (with_reducible refine (remontoirlaw18_stays.calls kj15 _ _ t418 _ _ l0 t454 _ ?side1 ?side2 ?side3 ?side4 A50.out).mono ?_); (case side1 => repeat ((exact (Kd.V_reads' HO_12.out).2.2))); (case side2 => exact (Kd.V_reads' HO_12.out).2.1); (case side3 => repeat ((exact (Kd.C_below HR0.out HB.out)))); (case side4 => exact HC0.out); rintro e w52 ⟨rfl, hb⟩; replace HO_9 := vb_ HO_9 hb; replace HO_12 := vb_ HO_12 hb; replace HO_14 := nb_ HO_14 hb; replace HO_440003 := vb_ HO_440003 hb; replace HO_440004 := vb_ HO_440004 hb; replace HO_452003 := vb_ HO_452003 hb; replace HO_452004 := vb_ HO_452004 hb; replace BK439 := kb_ BK439 hb; replace BK451 := kb_ BK451 hb; replace HB := hb_ HB hb; (try clear hb); (try clear hb2); (try clear hk); (try clear hi)))
         go_meet
         case rel => exact ⟨_, (!t454), (by rfl), H', ⟨by have := HJ15.out; omega⟩, ⟨HO_9.out⟩, ⟨HO_12.out⟩, ⟨HO_14.out⟩, ⟨HO_440003.out⟩, ⟨HO_440004.out⟩, ⟨HO_452003.out⟩, ⟨HO_452004.out⟩, ⟨BK439.out⟩, ⟨BK451.out⟩, ⟨HB.out⟩⟩
       ·
        rw [if_neg c48] at H
        have c48b0 : (t438 == 0) = false := beq_eq_false_iff_ne.mpr c48
        have c48b1 : (t438 != 0) = true := bne_iff_ne.mpr c48
        (skip)
        replace H := Option.bind_eq_some_iff.mp H
        obtain ⟨t455, A530, H⟩ := H
        replace H : (if t455 = true then (if t450 = 0 then (remontoirlaw18_PortSends.j1 kj15 a2 t413 t418 t426 t438 t450 false t429 t430 t431 t432 t435 t441 t442 t443 t444 t447) else ((remontoirlaw18_stays.f kj15 t418 l0).bind fun t456 => (remontoirlaw18_PortSends.j1 kj15 a2 t413 t418 t426 t438 t450 (!t456) t429 t430 t431 t432 t435 t441 t442 t443 t444 t447))) else (remontoirlaw18_PortSends.j1 kj15 a2 t413 t418 t426 t438 t450 true t429 t430 t431 t432 t435 t441 t442 t443 t444 t447)) = some true := H
        have A53 := Aside0.mk A530
        clear A530
        by_cases c54 : t455 = true
        ·
         subst c54
         have H1 : (if t450 = 0 then (remontoirlaw18_PortSends.j1 kj15 a2 t413 t418 t426 t438 t450 false t429 t430 t431 t432 t435 t441 t442 t443 t444 t447) else ((remontoirlaw18_stays.f kj15 t418 l0).bind fun t456 => (remontoirlaw18_PortSends.j1 kj15 a2 t413 t418 t426 t438 t450 (!t456) t429 t430 t431 t432 t435 t441 t442 t443 t444 t447))) = some true := by rw [if_pos rfl] at H; exact H
         clear H
         have H := H1
         clear H1
         by_cases c55 : t450 = 0
         ·
          rw [if_pos c55] at H
          have c55b0 : (t450 == 0) = true := beq_iff_eq.mpr c55
          have c55b1 : (t450 != 0) = false := bne_eq_false_iff_eq.mpr c55
          clear c55
          have H' := Aside0.mk H
          clear H
          obtain ⟨Ao56, co56, eo56⟩ := Kd.V_slice HO_9.out
          subst eo56
          go_wp2_with ((go_at_call 34; (with_reducible refine (remontoirlaw18_stays.calls kj15 _ _ t413 _ _ l0 true _ ?side1 ?side2 ?side3 ?side4 A53.out).mono ?_); (case side1 => repeat ((exact (Kd.V_reads' HO_9.out).2.2))); (case side2 => exact (Kd.V_reads' HO_9.out).2.1); (case side3 => repeat ((exact (Kd.C_below HR0.out HB.out)))); (case side4 => exact HC0.out); rintro e w57 ⟨rfl, hb⟩; replace HO_9 := vb_ HO_9 hb; replace HO_12 := vb_ HO_12 hb; replace HO_14 := nb_ HO_14 hb; replace HO_440003 := vb_ HO_440003 hb; replace HO_440004 := vb_ HO_440004 hb; replace HO_452003 := vb_ HO_452003 hb; replace HO_452004 := vb_ HO_452004 hb; replace BK439 := kb_ BK439 hb; replace BK451 := kb_ BK451 hb; replace HB := hb_ HB hb; (try clear hb); (try clear hb2); (try clear hk); (try clear hi)))
          go_meet
          case rel => exact ⟨_, (false), (by rfl), H', ⟨by have := HJ15.out; omega⟩, ⟨HO_9.out⟩, ⟨HO_12.out⟩, ⟨HO_14.out⟩, ⟨HO_440003.out⟩, ⟨HO_440004.out⟩, ⟨HO_452003.out⟩, ⟨HO_452004.out⟩, ⟨BK439.out⟩, ⟨BK451.out⟩, ⟨HB.out⟩⟩
         ·
          rw [if_neg c55] at H
          have c55b0 : (t450 == 0) = false := beq_eq_false_iff_ne.mpr c55
          have c55b1 : (t450 != 0) = true := bne_iff_ne.mpr c55
          replace H := Option.bind_eq_some_iff.mp H
          obtain ⟨t456, A580, H⟩ := H
          replace H : (remontoirlaw18_PortSends.j1 kj15 a2 t413 t418 t426 t438 t450 (!t456) t429 t430 t431 t432 t435 t441 t442 t443 t444 t447) = some true := H
          have A58 := Aside0.mk A580
          clear A580
          have H' := Aside0.mk H
          clear H
          obtain ⟨Ao59, co59, eo59⟩ := Kd.V_slice HO_9.out
          subst eo59
          go_wp2_with (first | (go_at_call 34; (with_reducible refine (remontoirlaw18_stays.calls kj15 _ _ t413 _ _ l0 true _ ?side1 ?side2 ?side3 ?side4 A53.out).mono ?_); (case side1 => repeat ((exact (Kd.V_reads' HO_9.out).2.2))); (case side2 => exact (Kd.V_reads' HO_9.out).2.1); (case side3 => repeat ((exact (Kd.C_below HR0.out HB.out)))); (case side4 => exact HC0.out); rintro e w60 ⟨rfl, hb⟩; replace HO_9 := vb_ HO_9 hb; replace HO_12 := vb_ HO_12 hb; replace HO_14 := nb_ HO_14 hb; replace HO_440003 := vb_ HO_440003 hb; replace HO_440004 := vb_ HO_440004 hb; replace HO_452003 := vb_ HO_452003 hb; replace HO_452004 := vb_ HO_452004 hb; replace BK439 := kb_ BK439 hb; replace BK451 := kb_ BK451 hb; replace HB := hb_ HB hb; (try clear hb); (try clear hb2); (try clear hk); (try clear hi); obtain ⟨Ao61, co61, eo61⟩ := Kd.V_slice HO_12.out; subst eo61) | (go_at_call 34; (with_reducible refine (remontoirlaw18_stays.calls kj15 _ _ t418 _ _ l0 t456 _ ?side1 ?side2 ?side3 ?side4 A58.out).mono ?_); (case side1 => repeat ((exact (Kd.V_reads' HO_12.out).2.2))); (case side2 => exact (Kd.V_reads' HO_12.out).2.1); (case side3 => repeat ((exact (Kd.C_below HR0.out HB.out)))); (case side4 => exact HC0.out); rintro e w62 ⟨rfl, hb⟩; replace HO_9 := vb_ HO_9 hb; replace HO_12 := vb_ HO_12 hb; replace HO_14 := nb_ HO_14 hb; replace HO_440003 := vb_ HO_440003 hb; replace HO_440004 := vb_ HO_440004 hb; replace HO_452003 := vb_ HO_452003 hb; replace HO_452004 := vb_ HO_452004 hb; replace BK439 := kb_ BK439 hb; replace BK451 := kb_ BK451 hb; replace HB := hb_ HB hb; (try clear hb); (try clear hb2); (try clear hk); (try clear hi)))
          go_meet
          case rel => exact ⟨_, (!t456), (by rfl), H', ⟨by have := HJ15.out; omega⟩, ⟨HO_9.out⟩, ⟨HO_12.out⟩, ⟨HO_14.out⟩, ⟨HO_440003.out⟩, ⟨HO_440004.out⟩, ⟨HO_452003.out⟩, ⟨HO_452004.out⟩, ⟨BK439.out⟩, ⟨BK451.out⟩, ⟨HB.out⟩⟩
        ·
         replace c54 := Bool.eq_false_iff.mpr c54
         subst c54
         have H1 : (remontoirlaw18_PortSends.j1 kj15 a2 t413 t418 t426 t438 t450 true t429 t430 t431 t432 t435 t441 t442 t443 t444 t447) = some true := by rw [if_neg (show ¬ (false = true) by decide)] at H; exact H
         clear H
         have H := H1
         clear H1
         have H' := Aside0.mk H
         clear H
         obtain ⟨Ao63, co63, eo63⟩ := Kd.V_slice HO_9.out
         subst eo63
         go_wp2_with ((go_at_call 34; (with_reducible refine (remontoirlaw18_stays.calls kj15 _ _ t413 _ _ l0 false _ ?side1 ?side2 ?side3 ?side4 A53.out).mono ?_); (case side1 => repeat ((exact (Kd.V_reads' HO_9.out).2.2))); (case side2 => exact (Kd.V_reads' HO_9.out).2.1); (case side3 => repeat ((exact (Kd.C_below HR0.out HB.out)))); (case side4 => exact HC0.out); rintro e w64 ⟨rfl, hb⟩; replace HO_9 := vb_ HO_9 hb; replace HO_12 := vb_ HO_12 hb; replace HO_14 := nb_ HO_14 hb; replace HO_440003 := vb_ HO_440003 hb; replace HO_440004 := vb_ HO_440004 hb; replace HO_452003 := vb_ HO_452003 hb; replace HO_452004 := vb_ HO_452004 hb; replace BK439 := kb_ BK439 hb; replace BK451 := kb_ BK451 hb; replace HB := hb_ HB hb; (try clear hb); (try clear hb2); (try clear hk); (try clear hi)))
         go_meet
         case rel => exact ⟨_, (true), (by rfl), H', ⟨by have := HJ15.out; omega⟩, ⟨HO_9.out⟩, ⟨HO_12.out⟩, ⟨HO_14.out⟩, ⟨HO_440003.out⟩, ⟨HO_440004.out⟩, ⟨HO_452003.out⟩, ⟨HO_452004.out⟩, ⟨BK439.out⟩, ⟨BK451.out⟩, ⟨HB.out⟩⟩
      case rest =>
       clear HC47
       try clear c1
       try clear c2
       try clear p2
       try clear c3
       try clear c4
       try clear c5
       try clear c6
       try clear c9
       try clear c12
       try clear c27
       try clear c28
       try clear c29
       try clear c30
       try clear c32
       try clear c33
       try clear c34
       try clear c34b0
       try clear c34b1
       try clear c35
       try clear c35b0
       try clear c35b1
       try clear c36
       try clear c36b0
       try clear c36b1
       try clear c37
       try clear c38
       try clear c46
       try clear c48
       try clear c48b0
       try clear c48b1
       try clear c49
       try clear c49b0
       try clear c49b1
       try clear c54
       try clear c55
       try clear c55b0
       try clear c55b1
       try clear hcz24_0
       try clear hcz24_1
       try clear hcz24_2
       try clear hcz24_3
       try clear hcz24_4
       try clear hcz31_0
       try clear hcz31_1
       try clear hcz31_2
       try clear hcz31_3
       try clear hcz31_4
       try clear hfz24_0
       try clear hfz24_1
       try clear hfz24_2
       try clear hfz24_3
       try clear hfz24_4
       try clear hfz31_0
       try clear hfz31_1
       try clear hfz31_2
       try clear hfz31_3
       try clear hfz31_4
       try clear p2
       obtain ⟨kq, x123_46, rfl, HA, HJ46, HO_9, HO_12, HO_14, HO_440003, HO_440004, HO_452003, HO_452004, BK439, BK451, HB⟩ := hcut
       cases kq with
       | zero => exact absurd HA.out (by simp [remontoirlaw18_PortSends.j1])
       | succ kj46 =>
        have H := HA.out
        clear HA
        simp only [remontoirlaw18_PortSends.j1] at H
        by_cases c65 : x123_46 = true
        ·
         subst c65
         have H1 : (some false) = some true := by rw [if_pos rfl] at H; exact H
         clear H
         have H := H1
         clear H1
         exact absurd H (by simp)
        ·
         replace c65 := Bool.eq_false_iff.mpr c65
         subst c65
         have H1 : (if t438 = 0 then ((remontoirlaw18_As.f kj46 t413).bind fun t457 => ((remontoirref18_With.f t426 a2 t429 t430 t431 t432 t435).bind fun t460 => ((remontoirlaw18_Same.f kj46 t457 t460).bind fun t463 => (if t463 = true then (if t450 = 0 then ((remontoirlaw18_As.f kj46 t418).bind fun t464 => ((remontoirref18_With.f t426 a2 t441 t442 t443 t444 t447).bind fun t467 => ((remontoirlaw18_Same.f kj46 t464 t467).bind fun t470 => (if t470 = true then ((remontoirlaw18_knows.f kj46).bind fun t471 => (some t471)) else (some false))))) else ((remontoirlaw18_knows.f kj46).bind fun t472 => (some t472))) else (some false))))) else (if t450 = 0 then ((remontoirlaw18_As.f kj46 t418).bind fun t473 => ((remontoirref18_With.f t426 a2 t441 t442 t443 t444 t447).bind fun t476 => ((remontoirlaw18_Same.f kj46 t473 t476).bind fun t479 => (if t479 = true then ((remontoirlaw18_knows.f kj46).bind fun t480 => (some t480)) else (some false))))) else ((remontoirlaw18_knows.f kj46).bind fun t481 => (some t481)))) = some true := by rw [if_neg (show ¬ (false = true) by decide)] at H; exact H
         clear H
         have H := H1
         clear H1
         by_cases c66 : t438 = 0
         ·
          rw [if_pos c66] at H
          have c66b0 : (t438 == 0) = true := beq_iff_eq.mpr c66
          have c66b1 : (t438 != 0) = false := bne_eq_false_iff_eq.mpr c66
          clear c66
          replace H := Option.bind_eq_some_iff.mp H
          obtain ⟨t457, A670, H⟩ := H
          replace H : ((remontoirref18_With.f t426 a2 t429 t430 t431 t432 t435).bind fun t460 => ((remontoirlaw18_Same.f kj46 t457 t460).bind fun t463 => (if t463 = true then (if t450 = 0 then ((remontoirlaw18_As.f kj46 t418).bind fun t464 => ((remontoirref18_With.f t426 a2 t441 t442 t443 t444 t447).bind fun t467 => ((remontoirlaw18_Same.f kj46 t464 t467).bind fun t470 => (if t470 = true then ((remontoirlaw18_knows.f kj46).bind fun t471 => (some t471)) else (some false))))) else ((remontoirlaw18_knows.f kj46).bind fun t472 => (some t472))) else (some false)))) = some true := H
          have A67 := Aside0.mk A670
          clear A670
          replace H := Option.bind_eq_some_iff.mp H
          obtain ⟨t460, A680, H⟩ := H
          replace H : ((remontoirlaw18_Same.f kj46 t457 t460).bind fun t463 => (if t463 = true then (if t450 = 0 then ((remontoirlaw18_As.f kj46 t418).bind fun t464 => ((remontoirref18_With.f t426 a2 t441 t442 t443 t444 t447).bind fun t467 => ((remontoirlaw18_Same.f kj46 t464 t467).bind fun t470 => (if t470 = true then ((remontoirlaw18_knows.f kj46).bind fun t471 => (some t471)) else (some false))))) else ((remontoirlaw18_knows.f kj46).bind fun t472 => (some t472))) else (some false))) = some true := H
          have A68 := Aside0.mk A680
          clear A680
          replace H := Option.bind_eq_some_iff.mp H
          obtain ⟨t463, A690, H⟩ := H
          replace H : (if t463 = true then (if t450 = 0 then ((remontoirlaw18_As.f kj46 t418).bind fun t464 => ((remontoirref18_With.f t426 a2 t441 t442 t443 t444 t447).bind fun t467 => ((remontoirlaw18_Same.f kj46 t464 t467).bind fun t470 => (if t470 = true then ((remontoirlaw18_knows.f kj46).bind fun t471 => (some t471)) else (some false))))) else ((remontoirlaw18_knows.f kj46).bind fun t472 => (some t472))) else (some false)) = some true := H
          have A69 := Aside0.mk A690
          clear A690
          by_cases c70 : t463 = true
          ·
           subst c70
           have H1 : (if t450 = 0 then ((remontoirlaw18_As.f kj46 t418).bind fun t464 => ((remontoirref18_With.f t426 a2 t441 t442 t443 t444 t447).bind fun t467 => ((remontoirlaw18_Same.f kj46 t464 t467).bind fun t470 => (if t470 = true then ((remontoirlaw18_knows.f kj46).bind fun t471 => (some t471)) else (some false))))) else ((remontoirlaw18_knows.f kj46).bind fun t472 => (some t472))) = some true := by rw [if_pos rfl] at H; exact H
           clear H
           have H := H1
           clear H1
           by_cases c71 : t450 = 0
           ·
            rw [if_pos c71] at H
            have c71b0 : (t450 == 0) = true := beq_iff_eq.mpr c71
            have c71b1 : (t450 != 0) = false := bne_eq_false_iff_eq.mpr c71
            clear c71
            replace H := Option.bind_eq_some_iff.mp H
            obtain ⟨t464, A720, H⟩ := H
            replace H : ((remontoirref18_With.f t426 a2 t441 t442 t443 t444 t447).bind fun t467 => ((remontoirlaw18_Same.f kj46 t464 t467).bind fun t470 => (if t470 = true then ((remontoirlaw18_knows.f kj46).bind fun t471 => (some t471)) else (some false)))) = some true := H
            have A72 := Aside0.mk A720
            clear A720
            replace H := Option.bind_eq_some_iff.mp H
            obtain ⟨t467, A730, H⟩ := H
            replace H : ((remontoirlaw18_Same.f kj46 t464 t467).bind fun t470 => (if t470 = true then ((remontoirlaw18_knows.f kj46).bind fun t471 => (some t471)) else (some false))) = some true := H
            have A73 := Aside0.mk A730
            clear A730
            replace H := Option.bind_eq_some_iff.mp H
            obtain ⟨t470, A740, H⟩ := H
            replace H : (if t470 = true then ((remontoirlaw18_knows.f kj46).bind fun t471 => (some t471)) else (some false)) = some true := H
            have A74 := Aside0.mk A740
            clear A740
            by_cases c75 : t470 = true
            ·
             subst c75
             have H1 : ((remontoirlaw18_knows.f kj46).bind fun t471 => (some t471)) = some true := by rw [if_pos rfl] at H; exact H
             clear H
             have H := H1
             clear H1
             replace H := Option.bind_eq_some_iff.mp H
             obtain ⟨t471, A760, H⟩ := H
             replace H : (some t471) = some true := H
             have A76 := Aside0.mk A760
             clear A760
             have HR_ := Aside0.mk (Option.some.inj H)
             clear H
             try go_wp2
             have n0_ := Aside0.mk (Kd.V_drew HO_9.out)
             have n1_ := Aside0.mk (Kd.V_drew HO_12.out)
             have n2_ := Aside0.mk (Kd.N_drew HO_14.out)
             have n3_ := Aside0.mk (Kd.V_drew HO_440003.out)
             have n4_ := Aside0.mk (Kd.V_drew HO_440004.out)
             have n5_ := Aside0.mk (Kd.V_drew HO_452003.out)
             have n6_ := Aside0.mk (Kd.V_drew HO_452004.out)
             have n7_ := Aside0.mk (blk_drew BK439.out)
             have n8_ := Aside0.mk (blk_drew BK451.out)
             have n9_ := Aside0.mk (below_drew1 HB.out)
             clear HO_9 HO_12 HO_14 HO_440003 HO_440004 HO_452003 HO_452004 BK439 BK451 HB; have HO_9 := n0_; have HO_12 := n1_; have HO_14 := n2_; have HO_440003 := n3_; have HO_440004 := n4_; have HO_452003 := n5_; have HO_452004 := n6_; have BK439 := n7_; have BK451 := n8_; have HB := n9_; clear n0_ n1_ n2_ n3_ n4_ n5_ n6_ n7_ n8_ n9_
             obtain ⟨Ao78, co78, eo78⟩ := Kd.V_slice HO_9.out
             ((subst eo78))
             refine start_ (n := 28) (S := fun w' => w'.cell? ⟨gb439, 0, none⟩ = some (.int .i64 t429) ∧ w'.cell? ⟨gb439, 1, none⟩ = some (.int .i64 t430) ∧ w'.cell? ⟨gb439, 2, none⟩ = some (.int .i64 t431) ∧ w'.cell? ⟨gb439, 3, none⟩ = some (.slice Ao25 t432.length co25) ∧ w'.cell? ⟨gb439, 4, none⟩ = some (.slice Ao26 t435.length co26) ∧ w'.cell? ⟨gb451, 0, none⟩ = some (.int .i64 t441) ∧ w'.cell? ⟨gb451, 1, none⟩ = some (.int .i64 t442) ∧ w'.cell? ⟨gb451, 2, none⟩ = some (.int .i64 t443) ∧ w'.cell? ⟨gb451, 3, none⟩ = some (.slice Ao32 t444.length co32) ∧ w'.cell? ⟨gb451, 4, none⟩ = some (.slice Ao33 t447.length co33)) (ds := []) #[false, false, false, false, false, false, false, false, false, false, false, false, false, false, false, false, false, false, false, false, false, false, false, false, false, false, false, false] (by kernel_rfl) rfl rfl ⟨(blk_cell BK439.out 0).trans rfl, (blk_cell BK439.out 1).trans rfl, (blk_cell BK439.out 2).trans rfl, (blk_cell BK439.out 3).trans rfl, (blk_cell BK439.out 4).trans rfl, (blk_cell BK451.out 0).trans rfl, (blk_cell BK451.out 1).trans rfl, (blk_cell BK451.out 2).trans rfl, (blk_cell BK451.out 3).trans rfl, (blk_cell BK451.out 4).trans rfl⟩ (fun hHeld => ?_); refine with_tabW remontoirlaw18_PortSends.tab14 remontoirlaw18_PortSends.bits14 (fun HT_ HW_ => ?_)
             generalize wc.drew = w77 at HO_9 HO_12 HO_14 HO_440003 HO_440004 HO_452003 HO_452004 BK439 BK451 HB hHeld ⊢
             refine pa_ 0 124 (bm 28 0x1) HT_ (h := ?_)
             refine pa_ 1 125 (bm 28 0x3) HT_ (h := ?_)
             refine pa_ 2 126 (bm 28 0x7) HT_ (h := ?_)
             refine pa_ 3 127 (bm 28 0xf) HT_ (h := ?_)
             refine pa_ 5 129 (bm 28 0x2f) HT_ (h := ?_)
             refine pa_ 6 130 (bm 28 0x6f) HT_ (h := ?_)
             refine take_ (i := 7) (N := some 131) (v := ?_) (a' := ?_) (bm 28 0xef) rfl rfl (take_ofW HT_.out HW_.out (by kernel_rfl)) (fun _ _ _ h => h) (Or.inl ⟨by rfl, ?_⟩) hHeld ?_ ?_
             rotate_left
             ·
              rintro w' ⟨s0, s1, s2, s3, s4, s5, s6, s7, s8, s9⟩
              go_simp
              with_reducible rfl
             rotate_left
             ·
              simp only [Act.put, sbA, sbB, sbC, i64_w, i32_w]
              rfl
             refine one_ (i := 4) (N := some 128) (bm 28 0xff) rfl rfl (one_of HT_.out (by kernel_rfl)) (by decide) (fun K hK => ?_)
             refine goes_ Try.func35 (by kernel_rfl) rfl #[.slice Ao78 t413.length co78] (by rfl) rfl rfl (by (try simp only [List.map_toArray, List.map_cons, List.map_nil]); rfl) ?_
             with_reducible refine (remontoirlaw18_As.calls kj46 _ _ t413 t457 _ ?side1 ?side2 A67.out).mono ?_
             (case side1 => repeat ((exact (Kd.V_reads' HO_9.out).2.2)))
             (case side2 => exact (Kd.V_reads' HO_9.out).2.1)
             rintro e w79 ⟨v458, rfl, ho0, hb⟩
             refine ⟨_, rfl, ?_⟩
             have n0_ := Aside0.mk (Kd.V_elder' HO_9.out (by (exact Kd.N_base (Kd.S_N ho0))) hb)
             have n1_ := Aside0.mk (Kd.V_elder' HO_12.out (by (exact Kd.N_base (Kd.S_N ho0))) hb)
             have n2_ := Aside0.mk (Kd.N_elder' HO_14.out (by (exact Kd.N_base (Kd.S_N ho0))) hb)
             have n3_ := Aside0.mk (Kd.V_elder' HO_440003.out (by (exact Kd.N_base (Kd.S_N ho0))) hb)
             have n4_ := Aside0.mk (Kd.V_elder' HO_440004.out (by (exact Kd.N_base (Kd.S_N ho0))) hb)
             have n5_ := Aside0.mk (Kd.V_elder' HO_452003.out (by (exact Kd.N_base (Kd.S_N ho0))) hb)
             have n6_ := Aside0.mk (Kd.V_elder' HO_452004.out (by (exact Kd.N_base (Kd.S_N ho0))) hb)
             have n7_ := Aside0.mk (Kd.N_lower (Kd.N_mono (ok' := fun k_ => some k_ ≠ (.slice Ao21 t426.length co21 : Value).ownBlock ∧ k_ ≠ gb439 ∧ k_ ≠ gb451) (Kd.S_N (Kd.S_bound ho0)) (fun k_ hk_ => ⟨(Kd.fresh' (Kd.N_lt HO_14.out) k_ hk_.2.1), (Kd.freshB BK439.out k_ hk_.2.1), (Kd.freshB BK451.out k_ hk_.2.1)⟩)) (below_size HB.out))
             clear HO_9 HO_12 HO_14 HO_440003 HO_440004 HO_452003 HO_452004; have HO_9 := n0_; have HO_12 := n1_; have HO_14 := n2_; have HO_440003 := n3_; have HO_440004 := n4_; have HO_452003 := n5_; have HO_452004 := n6_; have HO459 := n7_; clear n0_ n1_ n2_ n3_ n4_ n5_ n6_ n7_; replace BK439 := kb_ BK439 hb; replace BK451 := kb_ BK451 hb; replace HB := hb_ HB hb
             (try clear hb)
             (try clear hb2)
             (try clear hk)
             (try clear hi)
             (try clear ho0)
             refine hK.out _ _ ⟨(blk_cell BK439.out 0).trans rfl, (blk_cell BK439.out 1).trans rfl, (blk_cell BK439.out 2).trans rfl, (blk_cell BK439.out 3).trans rfl, (blk_cell BK439.out 4).trans rfl, (blk_cell BK451.out 0).trans rfl, (blk_cell BK451.out 1).trans rfl, (blk_cell BK451.out 2).trans rfl, (blk_cell BK451.out 3).trans rfl, (blk_cell BK451.out 4).trans rfl⟩ (fun hHeld => ?_)
             clear hK K
             refine nm_ 128 (h := ?_)
             refine one_ (i := 8) (N := some 132) (bm 28 0x1ff) rfl rfl (one_of HT_.out (by kernel_rfl)) (by decide) (fun K hK => ?_)
             refine goes_ Try.func39 (by kernel_rfl) rfl #[.slice Ao21 t426.length co21, .int .i64 a2, .agg #[.int .i64 t429, .int .i64 t430, .int .i64 t431, .slice Ao25 t432.length co25, .slice Ao26 t435.length co26]] (by rfl) rfl rfl (by (try simp only [List.map_toArray, List.map_cons, List.map_nil]); rfl) ?_
             with_reducible refine (remontoirref18_With.calls (fun k_ => ((k_ ≠ gb439 ∧ k_ ≠ gb451) ∧ some k_ ≠ (v458 : Value).ownBlock)) _ _ t426 a2 t429 t430 t431 (fun k_ => ((k_ ≠ gb439 ∧ k_ ≠ gb451) ∧ some k_ ≠ (v458 : Value).ownBlock)) _ _ t432 (fun k_ => ((k_ ≠ gb439 ∧ k_ ≠ gb451) ∧ some k_ ≠ (v458 : Value).ownBlock)) _ _ t435 t460 _ ?side1 ?side2 ?side3 A68.out).mono ?_
             (case side1 => exact Kd.N_V (HO_14.out))
             (case side2 => exact HO_440003.out)
             (case side3 => exact HO_440004.out)
             rintro e w80 ⟨v461, rfl, ho0, hb⟩
             refine ⟨_, rfl, ?_⟩
             have n0_ := Aside0.mk (Kd.V_elder' HO_9.out (by (exact Kd.N_base ho0)) hb)
             have n1_ := Aside0.mk (Kd.V_elder' HO_12.out (by (exact Kd.N_base ho0)) hb)
             have n2_ := Aside0.mk (Kd.N_elder' HO_14.out (by (exact Kd.N_base ho0)) hb)
             have n3_ := Aside0.mk (Kd.V_elder' HO_440003.out (by (exact Kd.N_base ho0)) hb)
             have n4_ := Aside0.mk (Kd.V_elder' HO_440004.out (by (exact Kd.N_base ho0)) hb)
             have n5_ := Aside0.mk (Kd.V_elder' HO_452003.out (by (exact Kd.N_base ho0)) hb)
             have n6_ := Aside0.mk (Kd.V_elder' HO_452004.out (by (exact Kd.N_base ho0)) hb)
             have n7_ := Aside0.mk (Kd.N_elder' HO459.out (by (exact Kd.N_base ho0)) hb)
             have n8_ := Aside0.mk (Kd.N_lower (Kd.N_mono (ok' := fun k_ => some k_ ≠ (v458 : Value).ownBlock ∧ k_ ≠ gb439 ∧ k_ ≠ gb451) ho0 (fun k_ hk_ => ⟨Or.elim hk_ (fun hs_ => Or.elim hs_ (fun hs_ => hs_.2) (fun hs_ => Or.elim hs_ (fun hs_ => hs_.2) (fun hs_ => hs_.2))) (fun hn_ => (Kd.fresh' (Kd.N_lt HO459.out) k_ hn_)), Or.elim hk_ (fun hs_ => Or.elim hs_ (fun hs_ => hs_.1.1) (fun hs_ => Or.elim hs_ (fun hs_ => hs_.1.1) (fun hs_ => hs_.1.1))) (fun hn_ => (Kd.freshB BK439.out k_ hn_)), Or.elim hk_ (fun hs_ => Or.elim hs_ (fun hs_ => hs_.1.2) (fun hs_ => Or.elim hs_ (fun hs_ => hs_.1.2) (fun hs_ => hs_.1.2))) (fun hn_ => (Kd.freshB BK451.out k_ hn_))⟩)) (below_size HB.out))
             clear HO_9 HO_12 HO_14 HO_440003 HO_440004 HO_452003 HO_452004 HO459; have HO_9 := n0_; have HO_12 := n1_; have HO_14 := n2_; have HO_440003 := n3_; have HO_440004 := n4_; have HO_452003 := n5_; have HO_452004 := n6_; have HO459 := n7_; have HO462 := n8_; clear n0_ n1_ n2_ n3_ n4_ n5_ n6_ n7_ n8_; replace BK439 := kb_ BK439 hb; replace BK451 := kb_ BK451 hb; replace HB := hb_ HB hb
             (try clear hb)
             (try clear hb2)
             (try clear hk)
             (try clear hi)
             (try clear ho0)
             obtain ⟨Ao81, co81, eo81⟩ := Kd.N_slice HO459.out
             ((subst eo81))
             obtain ⟨Ao82, co82, eo82⟩ := Kd.N_slice HO462.out
             ((subst eo82))
             refine hK.out _ _ ⟨(blk_cell BK439.out 0).trans rfl, (blk_cell BK439.out 1).trans rfl, (blk_cell BK439.out 2).trans rfl, (blk_cell BK439.out 3).trans rfl, (blk_cell BK439.out 4).trans rfl, (blk_cell BK451.out 0).trans rfl, (blk_cell BK451.out 1).trans rfl, (blk_cell BK451.out 2).trans rfl, (blk_cell BK451.out 3).trans rfl, (blk_cell BK451.out 4).trans rfl⟩ (fun hHeld => ?_)
             clear hK K
             refine nm_ 132 (h := ?_)
             refine one_ (i := 9) (N := some 133) (bm 28 0x3ff) rfl rfl (one_of HT_.out (by kernel_rfl)) (by decide) (fun K hK => ?_)
             refine goes_ Try.func38 (by kernel_rfl) rfl #[.slice Ao81 t457.length co81, .slice Ao82 t460.length co82] (by rfl) rfl rfl (by (try simp only [List.map_toArray, List.map_cons, List.map_nil]); rfl) ?_
             with_reducible refine (remontoirlaw18_Same.calls kj46 _ _ t457 _ _ t460 true _ ?side1 ?side2 ?side3 ?side4 A69.out).mono ?_
             (case side1 => repeat ((exact (Kd.N_reads' HO459.out).2.2)))
             (case side2 => exact (Kd.N_reads' HO459.out).2.1)
             (case side3 => repeat ((exact (Kd.N_reads' HO462.out).2.2)))
             (case side4 => exact (Kd.N_reads' HO462.out).2.1)
             rintro e w83 ⟨rfl, hb⟩
             refine ⟨_, rfl, ?_⟩
             replace HO_9 := vb_ HO_9 hb; replace HO_12 := vb_ HO_12 hb; replace HO_14 := nb_ HO_14 hb; replace HO_440003 := vb_ HO_440003 hb; replace HO_440004 := vb_ HO_440004 hb; replace HO_452003 := vb_ HO_452003 hb; replace HO_452004 := vb_ HO_452004 hb; replace HO459 := nb_ HO459 hb; replace HO462 := nb_ HO462 hb; replace BK439 := kb_ BK439 hb; replace BK451 := kb_ BK451 hb; replace HB := hb_ HB hb
             (try clear hb)
             (try clear hb2)
             (try clear hk)
             (try clear hi)
             obtain ⟨Ao84, co84, eo84⟩ := Kd.V_slice HO_12.out
             ((subst eo84))
             refine hK.out _ _ ⟨(blk_cell BK439.out 0).trans rfl, (blk_cell BK439.out 1).trans rfl, (blk_cell BK439.out 2).trans rfl, (blk_cell BK439.out 3).trans rfl, (blk_cell BK439.out 4).trans rfl, (blk_cell BK451.out 0).trans rfl, (blk_cell BK451.out 1).trans rfl, (blk_cell BK451.out 2).trans rfl, (blk_cell BK451.out 3).trans rfl, (blk_cell BK451.out 4).trans rfl⟩ (fun hHeld => ?_)
             clear hK K
             refine nm_ 133 (h := ?_)
             refine pa_ 10 134 (bm 28 0x7ff) HT_ (h := ?_)
             refine pa_ 11 135 (bm 28 0xfff) HT_ (h := ?_)
             refine pa_ 12 136 (bm 28 0x1fff) HT_ (h := ?_)
             refine pa_ 13 137 (bm 28 0x3fff) HT_ (h := ?_)
             refine pa_ 14 138 (bm 28 0x7fff) HT_ (h := ?_)
             refine pa_ 15 139 (bm 28 0xffff) HT_ (h := ?_)
             refine pa_ 17 141 (bm 28 0x2ffff) HT_ (h := ?_)
             refine pa_ 18 142 (bm 28 0x6ffff) HT_ (h := ?_)
             refine take_ (i := 19) (N := some 143) (v := ?_) (a' := ?_) (bm 28 0xeffff) rfl rfl (take_ofW HT_.out HW_.out (by kernel_rfl)) (fun _ _ _ h => h) (Or.inl ⟨by rfl, ?_⟩) hHeld ?_ ?_
             rotate_left
             ·
              rintro w' ⟨s0, s1, s2, s3, s4, s5, s6, s7, s8, s9⟩
              go_simp
              with_reducible rfl
             rotate_left
             ·
              simp only [Act.put, sbA, sbB, sbC, i64_w, i32_w]
              rfl
             refine one_ (i := 16) (N := some 140) (bm 28 0xfffff) rfl rfl (one_of HT_.out (by kernel_rfl)) (by decide) (fun K hK => ?_)
             refine goes_ Try.func35 (by kernel_rfl) rfl #[.slice Ao84 t418.length co84] (by rfl) rfl rfl (by (try simp only [List.map_toArray, List.map_cons, List.map_nil]); rfl) ?_
             with_reducible refine (remontoirlaw18_As.calls kj46 _ _ t418 t464 _ ?side1 ?side2 A72.out).mono ?_
             (case side1 => repeat ((exact (Kd.V_reads' HO_12.out).2.2)))
             (case side2 => exact (Kd.V_reads' HO_12.out).2.1)
             rintro e w85 ⟨v465, rfl, ho0, hb⟩
             refine ⟨_, rfl, ?_⟩
             have n0_ := Aside0.mk (Kd.V_elder' HO_9.out (by (exact Kd.N_base (Kd.S_N ho0))) hb)
             have n1_ := Aside0.mk (Kd.V_elder' HO_12.out (by (exact Kd.N_base (Kd.S_N ho0))) hb)
             have n2_ := Aside0.mk (Kd.N_elder' HO_14.out (by (exact Kd.N_base (Kd.S_N ho0))) hb)
             have n3_ := Aside0.mk (Kd.V_elder' HO_440003.out (by (exact Kd.N_base (Kd.S_N ho0))) hb)
             have n4_ := Aside0.mk (Kd.V_elder' HO_440004.out (by (exact Kd.N_base (Kd.S_N ho0))) hb)
             have n5_ := Aside0.mk (Kd.V_elder' HO_452003.out (by (exact Kd.N_base (Kd.S_N ho0))) hb)
             have n6_ := Aside0.mk (Kd.V_elder' HO_452004.out (by (exact Kd.N_base (Kd.S_N ho0))) hb)
             have n7_ := Aside0.mk (Kd.N_elder' HO459.out (by (exact Kd.N_base (Kd.S_N ho0))) hb)
             have n8_ := Aside0.mk (Kd.N_elder' HO462.out (by (exact Kd.N_base (Kd.S_N ho0))) hb)
             have n9_ := Aside0.mk (Kd.N_lower (Kd.N_mono (ok' := fun k_ => some k_ ≠ (.slice Ao21 t426.length co21 : Value).ownBlock ∧ some k_ ≠ (.slice Ao81 t457.length co81 : Value).ownBlock ∧ some k_ ≠ (.slice Ao82 t460.length co82 : Value).ownBlock ∧ k_ ≠ gb439 ∧ k_ ≠ gb451) (Kd.S_N (Kd.S_bound ho0)) (fun k_ hk_ => ⟨(Kd.fresh' (Kd.N_lt HO_14.out) k_ hk_.2.1), (Kd.fresh' (Kd.N_lt HO459.out) k_ hk_.2.1), (Kd.fresh' (Kd.N_lt HO462.out) k_ hk_.2.1), (Kd.freshB BK439.out k_ hk_.2.1), (Kd.freshB BK451.out k_ hk_.2.1)⟩)) (below_size HB.out))
             clear HO_9 HO_12 HO_14 HO_440003 HO_440004 HO_452003 HO_452004 HO459 HO462; have HO_9 := n0_; have HO_12 := n1_; have HO_14 := n2_; have HO_440003 := n3_; have HO_440004 := n4_; have HO_452003 := n5_; have HO_452004 := n6_; have HO459 := n7_; have HO462 := n8_; have HO466 := n9_; clear n0_ n1_ n2_ n3_ n4_ n5_ n6_ n7_ n8_ n9_; replace BK439 := kb_ BK439 hb; replace BK451 := kb_ BK451 hb; replace HB := hb_ HB hb
             (try clear hb)
             (try clear hb2)
             (try clear hk)
             (try clear hi)
             (try clear ho0)
             refine hK.out _ _ ⟨(blk_cell BK439.out 0).trans rfl, (blk_cell BK439.out 1).trans rfl, (blk_cell BK439.out 2).trans rfl, (blk_cell BK439.out 3).trans rfl, (blk_cell BK439.out 4).trans rfl, (blk_cell BK451.out 0).trans rfl, (blk_cell BK451.out 1).trans rfl, (blk_cell BK451.out 2).trans rfl, (blk_cell BK451.out 3).trans rfl, (blk_cell BK451.out 4).trans rfl⟩ (fun hHeld => ?_)
             clear hK K
             refine nm_ 140 (h := ?_)
             refine one_ (i := 20) (N := some 144) (bm 28 0x1fffff) rfl rfl (one_of HT_.out (by kernel_rfl)) (by decide) (fun K hK => ?_)
             refine goes_ Try.func39 (by kernel_rfl) rfl #[.slice Ao21 t426.length co21, .int .i64 a2, .agg #[.int .i64 t441, .int .i64 t442, .int .i64 t443, .slice Ao32 t444.length co32, .slice Ao33 t447.length co33]] (by rfl) rfl rfl (by (try simp only [List.map_toArray, List.map_cons, List.map_nil]); rfl) ?_
             with_reducible refine (remontoirref18_With.calls (fun k_ => ((((k_ ≠ gb439 ∧ k_ ≠ gb451) ∧ some k_ ≠ (.slice Ao81 t457.length co81 : Value).ownBlock) ∧ some k_ ≠ (.slice Ao82 t460.length co82 : Value).ownBlock) ∧ some k_ ≠ (v465 : Value).ownBlock)) _ _ t426 a2 t441 t442 t443 (fun k_ => ((((k_ ≠ gb439 ∧ k_ ≠ gb451) ∧ some k_ ≠ (.slice Ao81 t457.length co81 : Value).ownBlock) ∧ some k_ ≠ (.slice Ao82 t460.length co82 : Value).ownBlock) ∧ some k_ ≠ (v465 : Value).ownBlock)) _ _ t444 (fun k_ => ((((k_ ≠ gb439 ∧ k_ ≠ gb451) ∧ some k_ ≠ (.slice Ao81 t457.length co81 : Value).ownBlock) ∧ some k_ ≠ (.slice Ao82 t460.length co82 : Value).ownBlock) ∧ some k_ ≠ (v465 : Value).ownBlock)) _ _ t447 t467 _ ?side1 ?side2 ?side3 A73.out).mono ?_
             (case side1 => exact Kd.N_V (HO_14.out))
             (case side2 => exact HO_452003.out)
             (case side3 => exact HO_452004.out)
             rintro e w86 ⟨v468, rfl, ho0, hb⟩
             refine ⟨_, rfl, ?_⟩
             have n0_ := Aside0.mk (Kd.V_elder' HO_9.out (by (exact Kd.N_base ho0)) hb)
             have n1_ := Aside0.mk (Kd.V_elder' HO_12.out (by (exact Kd.N_base ho0)) hb)
             have n2_ := Aside0.mk (Kd.N_elder' HO_14.out (by (exact Kd.N_base ho0)) hb)
             have n3_ := Aside0.mk (Kd.V_elder' HO_440003.out (by (exact Kd.N_base ho0)) hb)
             have n4_ := Aside0.mk (Kd.V_elder' HO_440004.out (by (exact Kd.N_base ho0)) hb)
             have n5_ := Aside0.mk (Kd.V_elder' HO_452003.out (by (exact Kd.N_base ho0)) hb)
             have n6_ := Aside0.mk (Kd.V_elder' HO_452004.out (by (exact Kd.N_base ho0)) hb)
             have n7_ := Aside0.mk (Kd.N_elder' HO459.out (by (exact Kd.N_base ho0)) hb)
             have n8_ := Aside0.mk (Kd.N_elder' HO462.out (by (exact Kd.N_base ho0)) hb)
             have n9_ := Aside0.mk (Kd.N_elder' HO466.out (by (exact Kd.N_base ho0)) hb)
             have n10_ := Aside0.mk (Kd.N_lower (Kd.N_mono (ok' := fun k_ => some k_ ≠ (.slice Ao81 t457.length co81 : Value).ownBlock ∧ some k_ ≠ (.slice Ao82 t460.length co82 : Value).ownBlock ∧ some k_ ≠ (v465 : Value).ownBlock ∧ k_ ≠ gb439 ∧ k_ ≠ gb451) ho0 (fun k_ hk_ => ⟨Or.elim hk_ (fun hs_ => Or.elim hs_ (fun hs_ => hs_.1.1.2) (fun hs_ => Or.elim hs_ (fun hs_ => hs_.1.1.2) (fun hs_ => hs_.1.1.2))) (fun hn_ => (Kd.fresh' (Kd.N_lt HO459.out) k_ hn_)), Or.elim hk_ (fun hs_ => Or.elim hs_ (fun hs_ => hs_.1.2) (fun hs_ => Or.elim hs_ (fun hs_ => hs_.1.2) (fun hs_ => hs_.1.2))) (fun hn_ => (Kd.fresh' (Kd.N_lt HO462.out) k_ hn_)), Or.elim hk_ (fun hs_ => Or.elim hs_ (fun hs_ => hs_.2) (fun hs_ => Or.elim hs_ (fun hs_ => hs_.2) (fun hs_ => hs_.2))) (fun hn_ => (Kd.fresh' (Kd.N_lt HO466.out) k_ hn_)), Or.elim hk_ (fun hs_ => Or.elim hs_ (fun hs_ => hs_.1.1.1.1) (fun hs_ => Or.elim hs_ (fun hs_ => hs_.1.1.1.1) (fun hs_ => hs_.1.1.1.1))) (fun hn_ => (Kd.freshB BK439.out k_ hn_)), Or.elim hk_ (fun hs_ => Or.elim hs_ (fun hs_ => hs_.1.1.1.2) (fun hs_ => Or.elim hs_ (fun hs_ => hs_.1.1.1.2) (fun hs_ => hs_.1.1.1.2))) (fun hn_ => (Kd.freshB BK451.out k_ hn_))⟩)) (below_size HB.out))
             clear HO_9 HO_12 HO_14 HO_440003 HO_440004 HO_452003 HO_452004 HO459 HO462 HO466; have HO_9 := n0_; have HO_12 := n1_; have HO_14 := n2_; have HO_440003 := n3_; have HO_440004 := n4_; have HO_452003 := n5_; have HO_452004 := n6_; have HO459 := n7_; have HO462 := n8_; have HO466 := n9_; have HO469 := n10_; clear n0_ n1_ n2_ n3_ n4_ n5_ n6_ n7_ n8_ n9_ n10_; replace BK439 := kb_ BK439 hb; replace BK451 := kb_ BK451 hb; replace HB := hb_ HB hb
             (try clear hb)
             (try clear hb2)
             (try clear hk)
             (try clear hi)
             (try clear ho0)
             obtain ⟨Ao87, co87, eo87⟩ := Kd.N_slice HO466.out
             ((subst eo87))
             obtain ⟨Ao88, co88, eo88⟩ := Kd.N_slice HO469.out
             ((subst eo88))
             refine hK.out _ _ ⟨(blk_cell BK439.out 0).trans rfl, (blk_cell BK439.out 1).trans rfl, (blk_cell BK439.out 2).trans rfl, (blk_cell BK439.out 3).trans rfl, (blk_cell BK439.out 4).trans rfl, (blk_cell BK451.out 0).trans rfl, (blk_cell BK451.out 1).trans rfl, (blk_cell BK451.out 2).trans rfl, (blk_cell BK451.out 3).trans rfl, (blk_cell BK451.out 4).trans rfl⟩ (fun hHeld => ?_)
             clear hK K
             refine nm_ 144 (h := ?_)
             refine one_ (i := 21) (N := some 145) (bm 28 0x3fffff) rfl rfl (one_of HT_.out (by kernel_rfl)) (by decide) (fun K hK => ?_)
             refine goes_ Try.func38 (by kernel_rfl) rfl #[.slice Ao87 t464.length co87, .slice Ao88 t467.length co88] (by rfl) rfl rfl (by (try simp only [List.map_toArray, List.map_cons, List.map_nil]); rfl) ?_
             with_reducible refine (remontoirlaw18_Same.calls kj46 _ _ t464 _ _ t467 true _ ?side1 ?side2 ?side3 ?side4 A74.out).mono ?_
             (case side1 => repeat ((exact (Kd.N_reads' HO466.out).2.2)))
             (case side2 => exact (Kd.N_reads' HO466.out).2.1)
             (case side3 => repeat ((exact (Kd.N_reads' HO469.out).2.2)))
             (case side4 => exact (Kd.N_reads' HO469.out).2.1)
             rintro e w89 ⟨rfl, hb⟩
             refine ⟨_, rfl, ?_⟩
             replace HO_9 := vb_ HO_9 hb; replace HO_12 := vb_ HO_12 hb; replace HO_14 := nb_ HO_14 hb; replace HO_440003 := vb_ HO_440003 hb; replace HO_440004 := vb_ HO_440004 hb; replace HO_452003 := vb_ HO_452003 hb; replace HO_452004 := vb_ HO_452004 hb; replace HO459 := nb_ HO459 hb; replace HO462 := nb_ HO462 hb; replace HO466 := nb_ HO466 hb; replace HO469 := nb_ HO469 hb; replace BK439 := kb_ BK439 hb; replace BK451 := kb_ BK451 hb; replace HB := hb_ HB hb
             (try clear hb)
             (try clear hb2)
             (try clear hk)
             (try clear hi)
             refine hK.out _ _ ⟨(blk_cell BK439.out 0).trans rfl, (blk_cell BK439.out 1).trans rfl, (blk_cell BK439.out 2).trans rfl, (blk_cell BK439.out 3).trans rfl, (blk_cell BK439.out 4).trans rfl, (blk_cell BK451.out 0).trans rfl, (blk_cell BK451.out 1).trans rfl, (blk_cell BK451.out 2).trans rfl, (blk_cell BK451.out 3).trans rfl, (blk_cell BK451.out 4).trans rfl⟩ (fun hHeld => ?_)
             clear hK K
             refine nm_ 145 (h := ?_)
             refine pa_ 22 146 (bm 28 0x7fffff) HT_ (h := ?_)
             refine pa_ 23 147 (bm 28 0xffffff) HT_ (h := ?_)
             refine pa_ 24 148 (bm 28 0x1ffffff) HT_ (h := ?_)
             refine one_ (i := 25) (N := some 149) (bm 28 0x3ffffff) rfl rfl (one_of HT_.out (by kernel_rfl)) (by decide) (fun K hK => ?_)
             refine goes_ Try.func27 (by kernel_rfl) rfl #[] (by rfl) rfl rfl (by (try simp only [List.map_toArray, List.map_cons, List.map_nil]); done) ?_
             with_reducible refine (remontoirlaw18_knows.calls kj46  t471 _ A76.out).mono ?_
             rintro e w90 ⟨rfl, hb⟩
             refine ⟨_, rfl, ?_⟩
             replace HO_9 := vb_ HO_9 hb; replace HO_12 := vb_ HO_12 hb; replace HO_14 := nb_ HO_14 hb; replace HO_440003 := vb_ HO_440003 hb; replace HO_440004 := vb_ HO_440004 hb; replace HO_452003 := vb_ HO_452003 hb; replace HO_452004 := vb_ HO_452004 hb; replace HO459 := nb_ HO459 hb; replace HO462 := nb_ HO462 hb; replace HO466 := nb_ HO466 hb; replace HO469 := nb_ HO469 hb; replace BK439 := kb_ BK439 hb; replace BK451 := kb_ BK451 hb; replace HB := hb_ HB hb
             (try clear hb)
             (try clear hb2)
             (try clear hk)
             (try clear hi)
             refine hK.out _ _ ⟨(blk_cell BK439.out 0).trans rfl, (blk_cell BK439.out 1).trans rfl, (blk_cell BK439.out 2).trans rfl, (blk_cell BK439.out 3).trans rfl, (blk_cell BK439.out 4).trans rfl, (blk_cell BK451.out 0).trans rfl, (blk_cell BK451.out 1).trans rfl, (blk_cell BK451.out 2).trans rfl, (blk_cell BK451.out 3).trans rfl, (blk_cell BK451.out 4).trans rfl⟩ (fun hHeld => ?_)
             clear hK K
             refine nm_ 149 (h := ?_)
             refine pa_ 26 150 (bm 28 0x7ffffff) HT_ (h := ?_)
             refine pa_ 27 8 (bm 28 0xfffffff) HT_ (h := ?_)
             refine done_ (done_of HT_.out (by kernel_rfl)) ?_
             try go_wp2
             go_ret
             exact ⟨by (rw [HR_.out] <;> rfl), by repeat ((with_reducible (exact HB.out)))⟩
            ·
             replace c75 := Bool.eq_false_iff.mpr c75
             subst c75
             have H1 : (some false) = some true := by rw [if_neg (show ¬ (false = true) by decide)] at H; exact H
             clear H
             have H := H1
             clear H1
             exact absurd H (by simp)
           ·
            rw [if_neg c71] at H
            have c71b0 : (t450 == 0) = false := beq_eq_false_iff_ne.mpr c71
            have c71b1 : (t450 != 0) = true := bne_iff_ne.mpr c71
            replace H := Option.bind_eq_some_iff.mp H
            obtain ⟨t472, A910, H⟩ := H
            replace H : (some t472) = some true := H
            have A91 := Aside0.mk A910
            clear A910
            have HR_ := Aside0.mk (Option.some.inj H)
            clear H
            try go_wp2
            have n0_ := Aside0.mk (Kd.V_drew HO_9.out)
            have n1_ := Aside0.mk (Kd.V_drew HO_12.out)
            have n2_ := Aside0.mk (Kd.N_drew HO_14.out)
            have n3_ := Aside0.mk (Kd.V_drew HO_440003.out)
            have n4_ := Aside0.mk (Kd.V_drew HO_440004.out)
            have n5_ := Aside0.mk (Kd.V_drew HO_452003.out)
            have n6_ := Aside0.mk (Kd.V_drew HO_452004.out)
            have n7_ := Aside0.mk (blk_drew BK439.out)
            have n8_ := Aside0.mk (blk_drew BK451.out)
            have n9_ := Aside0.mk (below_drew1 HB.out)
            clear HO_9 HO_12 HO_14 HO_440003 HO_440004 HO_452003 HO_452004 BK439 BK451 HB; have HO_9 := n0_; have HO_12 := n1_; have HO_14 := n2_; have HO_440003 := n3_; have HO_440004 := n4_; have HO_452003 := n5_; have HO_452004 := n6_; have BK439 := n7_; have BK451 := n8_; have HB := n9_; clear n0_ n1_ n2_ n3_ n4_ n5_ n6_ n7_ n8_ n9_
            obtain ⟨Ao93, co93, eo93⟩ := Kd.V_slice HO_9.out
            ((subst eo93))
            refine start_ (n := 28) (S := fun w' => w'.cell? ⟨gb439, 0, none⟩ = some (.int .i64 t429) ∧ w'.cell? ⟨gb439, 1, none⟩ = some (.int .i64 t430) ∧ w'.cell? ⟨gb439, 2, none⟩ = some (.int .i64 t431) ∧ w'.cell? ⟨gb439, 3, none⟩ = some (.slice Ao25 t432.length co25) ∧ w'.cell? ⟨gb439, 4, none⟩ = some (.slice Ao26 t435.length co26)) (ds := []) #[false, false, false, false, false, false, false, false, false, false, false, false, false, false, false, false, false, false, false, false, false, false, false, false, false, false, false, false] (by kernel_rfl) rfl rfl (bh5_ BK439.out) (fun hHeld => ?_); refine with_tabW remontoirlaw18_PortSends.tab14 remontoirlaw18_PortSends.bits14 (fun HT_ HW_ => ?_)
            generalize wc.drew = w92 at HO_9 HO_12 HO_14 HO_440003 HO_440004 HO_452003 HO_452004 BK439 BK451 HB hHeld ⊢
            refine pa_ 0 124 (bm 28 0x1) HT_ (h := ?_)
            refine pa_ 1 125 (bm 28 0x3) HT_ (h := ?_)
            refine pa_ 2 126 (bm 28 0x7) HT_ (h := ?_)
            refine pa_ 3 127 (bm 28 0xf) HT_ (h := ?_)
            refine pa_ 5 129 (bm 28 0x2f) HT_ (h := ?_)
            refine pa_ 6 130 (bm 28 0x6f) HT_ (h := ?_)
            refine take_ (i := 7) (N := some 131) (v := ?_) (a' := ?_) (bm 28 0xef) rfl rfl (take_ofW HT_.out HW_.out (by kernel_rfl)) (fun _ _ _ h => h) (Or.inl ⟨by rfl, ?_⟩) hHeld ?_ ?_
            rotate_left
            ·
             rintro w' ⟨s0, s1, s2, s3, s4⟩
             go_simp
             with_reducible rfl
            rotate_left
            ·
             simp only [Act.put, sbA, sbB, sbC, i64_w, i32_w]
             rfl
            refine one_ (i := 4) (N := some 128) (bm 28 0xff) rfl rfl (one_of HT_.out (by kernel_rfl)) (by decide) (fun K hK => ?_)
            refine goes_ Try.func35 (by kernel_rfl) rfl #[.slice Ao93 t413.length co93] (by rfl) rfl rfl (by (try simp only [List.map_toArray, List.map_cons, List.map_nil]); rfl) ?_
            with_reducible refine (remontoirlaw18_As.calls kj46 _ _ t413 t457 _ ?side1 ?side2 A67.out).mono ?_
            (case side1 => repeat ((exact (Kd.V_reads' HO_9.out).2.2)))
            (case side2 => exact (Kd.V_reads' HO_9.out).2.1)
            rintro e w94 ⟨v458, rfl, ho0, hb⟩
            refine ⟨_, rfl, ?_⟩
            have n0_ := Aside0.mk (Kd.V_elder' HO_9.out (by (exact Kd.N_base (Kd.S_N ho0))) hb)
            have n1_ := Aside0.mk (Kd.V_elder' HO_12.out (by (exact Kd.N_base (Kd.S_N ho0))) hb)
            have n2_ := Aside0.mk (Kd.N_elder' HO_14.out (by (exact Kd.N_base (Kd.S_N ho0))) hb)
            have n3_ := Aside0.mk (Kd.V_elder' HO_440003.out (by (exact Kd.N_base (Kd.S_N ho0))) hb)
            have n4_ := Aside0.mk (Kd.V_elder' HO_440004.out (by (exact Kd.N_base (Kd.S_N ho0))) hb)
            have n5_ := Aside0.mk (Kd.V_elder' HO_452003.out (by (exact Kd.N_base (Kd.S_N ho0))) hb)
            have n6_ := Aside0.mk (Kd.V_elder' HO_452004.out (by (exact Kd.N_base (Kd.S_N ho0))) hb)
            have n7_ := Aside0.mk (Kd.N_lower (Kd.N_mono (ok' := fun k_ => some k_ ≠ (.slice Ao21 t426.length co21 : Value).ownBlock ∧ k_ ≠ gb439 ∧ k_ ≠ gb451) (Kd.S_N (Kd.S_bound ho0)) (fun k_ hk_ => ⟨(Kd.fresh' (Kd.N_lt HO_14.out) k_ hk_.2.1), (Kd.freshB BK439.out k_ hk_.2.1), (Kd.freshB BK451.out k_ hk_.2.1)⟩)) (below_size HB.out))
            clear HO_9 HO_12 HO_14 HO_440003 HO_440004 HO_452003 HO_452004; have HO_9 := n0_; have HO_12 := n1_; have HO_14 := n2_; have HO_440003 := n3_; have HO_440004 := n4_; have HO_452003 := n5_; have HO_452004 := n6_; have HO459 := n7_; clear n0_ n1_ n2_ n3_ n4_ n5_ n6_ n7_; replace BK439 := kb_ BK439 hb; replace BK451 := kb_ BK451 hb; replace HB := hb_ HB hb
            (try clear hb)
            (try clear hb2)
            (try clear hk)
            (try clear hi)
            (try clear ho0)
            refine hK.out _ _ (bh5_ BK439.out) (fun hHeld => ?_)
            clear hK K
            refine nm_ 128 (h := ?_)
            refine one_ (i := 8) (N := some 132) (bm 28 0x1ff) rfl rfl (one_of HT_.out (by kernel_rfl)) (by decide) (fun K hK => ?_)
            refine goes_ Try.func39 (by kernel_rfl) rfl #[.slice Ao21 t426.length co21, .int .i64 a2, .agg #[.int .i64 t429, .int .i64 t430, .int .i64 t431, .slice Ao25 t432.length co25, .slice Ao26 t435.length co26]] (by rfl) rfl rfl (by (try simp only [List.map_toArray, List.map_cons, List.map_nil]); rfl) ?_
            with_reducible refine (remontoirref18_With.calls (fun k_ => ((k_ ≠ gb439 ∧ k_ ≠ gb451) ∧ some k_ ≠ (v458 : Value).ownBlock)) _ _ t426 a2 t429 t430 t431 (fun k_ => ((k_ ≠ gb439 ∧ k_ ≠ gb451) ∧ some k_ ≠ (v458 : Value).ownBlock)) _ _ t432 (fun k_ => ((k_ ≠ gb439 ∧ k_ ≠ gb451) ∧ some k_ ≠ (v458 : Value).ownBlock)) _ _ t435 t460 _ ?side1 ?side2 ?side3 A68.out).mono ?_
            (case side1 => exact Kd.N_V (HO_14.out))
            (case side2 => exact HO_440003.out)
            (case side3 => exact HO_440004.out)
            rintro e w95 ⟨v461, rfl, ho0, hb⟩
            refine ⟨_, rfl, ?_⟩
            have n0_ := Aside0.mk (Kd.V_elder' HO_9.out (by (exact Kd.N_base ho0)) hb)
            have n1_ := Aside0.mk (Kd.V_elder' HO_12.out (by (exact Kd.N_base ho0)) hb)
            have n2_ := Aside0.mk (Kd.N_elder' HO_14.out (by (exact Kd.N_base ho0)) hb)
            have n3_ := Aside0.mk (Kd.V_elder' HO_440003.out (by (exact Kd.N_base ho0)) hb)
            have n4_ := Aside0.mk (Kd.V_elder' HO_440004.out (by (exact Kd.N_base ho0)) hb)
            have n5_ := Aside0.mk (Kd.V_elder' HO_452003.out (by (exact Kd.N_base ho0)) hb)
            have n6_ := Aside0.mk (Kd.V_elder' HO_452004.out (by (exact Kd.N_base ho0)) hb)
            have n7_ := Aside0.mk (Kd.N_elder' HO459.out (by (exact Kd.N_base ho0)) hb)
            have n8_ := Aside0.mk (Kd.N_lower (Kd.N_mono (ok' := fun k_ => some k_ ≠ (v458 : Value).ownBlock ∧ k_ ≠ gb439 ∧ k_ ≠ gb451) ho0 (fun k_ hk_ => ⟨Or.elim hk_ (fun hs_ => Or.elim hs_ (fun hs_ => hs_.2) (fun hs_ => Or.elim hs_ (fun hs_ => hs_.2) (fun hs_ => hs_.2))) (fun hn_ => (Kd.fresh' (Kd.N_lt HO459.out) k_ hn_)), Or.elim hk_ (fun hs_ => Or.elim hs_ (fun hs_ => hs_.1.1) (fun hs_ => Or.elim hs_ (fun hs_ => hs_.1.1) (fun hs_ => hs_.1.1))) (fun hn_ => (Kd.freshB BK439.out k_ hn_)), Or.elim hk_ (fun hs_ => Or.elim hs_ (fun hs_ => hs_.1.2) (fun hs_ => Or.elim hs_ (fun hs_ => hs_.1.2) (fun hs_ => hs_.1.2))) (fun hn_ => (Kd.freshB BK451.out k_ hn_))⟩)) (below_size HB.out))
            clear HO_9 HO_12 HO_14 HO_440003 HO_440004 HO_452003 HO_452004 HO459; have HO_9 := n0_; have HO_12 := n1_; have HO_14 := n2_; have HO_440003 := n3_; have HO_440004 := n4_; have HO_452003 := n5_; have HO_452004 := n6_; have HO459 := n7_; have HO462 := n8_; clear n0_ n1_ n2_ n3_ n4_ n5_ n6_ n7_ n8_; replace BK439 := kb_ BK439 hb; replace BK451 := kb_ BK451 hb; replace HB := hb_ HB hb
            (try clear hb)
            (try clear hb2)
            (try clear hk)
            (try clear hi)
            (try clear ho0)
            obtain ⟨Ao96, co96, eo96⟩ := Kd.N_slice HO459.out
            ((subst eo96))
            obtain ⟨Ao97, co97, eo97⟩ := Kd.N_slice HO462.out
            ((subst eo97))
            refine hK.out _ _ (bh5_ BK439.out) (fun hHeld => ?_)
            clear hK K
            refine nm_ 132 (h := ?_)
            refine one_ (i := 9) (N := some 133) (bm 28 0x3ff) rfl rfl (one_of HT_.out (by kernel_rfl)) (by decide) (fun K hK => ?_)
            refine goes_ Try.func38 (by kernel_rfl) rfl #[.slice Ao96 t457.length co96, .slice Ao97 t460.length co97] (by rfl) rfl rfl (by (try simp only [List.map_toArray, List.map_cons, List.map_nil]); rfl) ?_
            with_reducible refine (remontoirlaw18_Same.calls kj46 _ _ t457 _ _ t460 true _ ?side1 ?side2 ?side3 ?side4 A69.out).mono ?_
            (case side1 => repeat ((exact (Kd.N_reads' HO459.out).2.2)))
            (case side2 => exact (Kd.N_reads' HO459.out).2.1)
            (case side3 => repeat ((exact (Kd.N_reads' HO462.out).2.2)))
            (case side4 => exact (Kd.N_reads' HO462.out).2.1)
            rintro e w98 ⟨rfl, hb⟩
            refine ⟨_, rfl, ?_⟩
            replace HO_9 := vb_ HO_9 hb; replace HO_12 := vb_ HO_12 hb; replace HO_14 := nb_ HO_14 hb; replace HO_440003 := vb_ HO_440003 hb; replace HO_440004 := vb_ HO_440004 hb; replace HO_452003 := vb_ HO_452003 hb; replace HO_452004 := vb_ HO_452004 hb; replace HO459 := nb_ HO459 hb; replace HO462 := nb_ HO462 hb; replace BK439 := kb_ BK439 hb; replace BK451 := kb_ BK451 hb; replace HB := hb_ HB hb
            (try clear hb)
            (try clear hb2)
            (try clear hk)
            (try clear hi)
            refine hK.out _ _ (bh5_ BK439.out) (fun hHeld => ?_)
            clear hK K
            refine nm_ 133 (h := ?_)
            refine pa_ 10 134 (bm 28 0x7ff) HT_ (h := ?_)
            refine pa_ 11 135 (bm 28 0xfff) HT_ (h := ?_)
            refine pa_ 12 136 (bm 28 0x1fff) HT_ (h := ?_)
            refine pa_ 13 137 (bm 28 0x3fff) HT_ (h := ?_)
            refine pa_ 14 138 (bm 28 0x7fff) HT_ (h := ?_)
            refine pz_ 15 139 (bm 28 0xffff) HT_ (h := ?_)
            refine pz_ 16 140 (bm 28 0x1ffff) HT_ (h := ?_)
            refine pz_ 17 141 (bm 28 0x3ffff) HT_ (h := ?_)
            refine pz_ 18 142 (bm 28 0x7ffff) HT_ (h := ?_)
            refine pz_ 19 143 (bm 28 0xfffff) HT_ (h := ?_)
            refine pz_ 20 144 (bm 28 0x1fffff) HT_ (h := ?_)
            refine pz_ 21 145 (bm 28 0x3fffff) HT_ (h := ?_)
            refine pa_ 22 146 (bm 28 0x7fffff) HT_ (h := ?_)
            refine pa_ 23 147 (bm 28 0xffffff) HT_ (h := ?_)
            refine pa_ 24 148 (bm 28 0x1ffffff) HT_ (h := ?_)
            refine one_ (i := 25) (N := some 149) (bm 28 0x3ffffff) rfl rfl (one_of HT_.out (by kernel_rfl)) (by decide) (fun K hK => ?_)
            refine goes_ Try.func27 (by kernel_rfl) rfl #[] (by rfl) rfl rfl (by (try simp only [List.map_toArray, List.map_cons, List.map_nil]); done) ?_
            with_reducible refine (remontoirlaw18_knows.calls kj46  t472 _ A91.out).mono ?_
            rintro e w99 ⟨rfl, hb⟩
            refine ⟨_, rfl, ?_⟩
            replace HO_9 := vb_ HO_9 hb; replace HO_12 := vb_ HO_12 hb; replace HO_14 := nb_ HO_14 hb; replace HO_440003 := vb_ HO_440003 hb; replace HO_440004 := vb_ HO_440004 hb; replace HO_452003 := vb_ HO_452003 hb; replace HO_452004 := vb_ HO_452004 hb; replace HO459 := nb_ HO459 hb; replace HO462 := nb_ HO462 hb; replace BK439 := kb_ BK439 hb; replace BK451 := kb_ BK451 hb; replace HB := hb_ HB hb
            (try clear hb)
            (try clear hb2)
            (try clear hk)
            (try clear hi)
            refine hK.out _ _ (bh5_ BK439.out) (fun hHeld => ?_)
            clear hK K
            refine nm_ 149 (h := ?_)
            refine pa_ 26 150 (bm 28 0x7ffffff) HT_ (h := ?_)
            refine pa_ 27 8 (bm 28 0xfffffff) HT_ (h := ?_)
            refine done_ (done_of HT_.out (by kernel_rfl)) ?_
            try go_wp2
            go_ret
            exact ⟨by (rw [HR_.out] <;> rfl), by repeat ((with_reducible (exact HB.out)))⟩
          ·
           replace c70 := Bool.eq_false_iff.mpr c70
           subst c70
           have H1 : (some false) = some true := by rw [if_neg (show ¬ (false = true) by decide)] at H; exact H
           clear H
           have H := H1
           clear H1
           exact absurd H (by simp)
         ·
          rw [if_neg c66] at H
          have c66b0 : (t438 == 0) = false := beq_eq_false_iff_ne.mpr c66
          have c66b1 : (t438 != 0) = true := bne_iff_ne.mpr c66
          by_cases c100 : t450 = 0
          ·
           rw [if_pos c100] at H
           have c100b0 : (t450 == 0) = true := beq_iff_eq.mpr c100
           have c100b1 : (t450 != 0) = false := bne_eq_false_iff_eq.mpr c100
           clear c100
           replace H := Option.bind_eq_some_iff.mp H
           obtain ⟨t473, A1010, H⟩ := H
           replace H : ((remontoirref18_With.f t426 a2 t441 t442 t443 t444 t447).bind fun t476 => ((remontoirlaw18_Same.f kj46 t473 t476).bind fun t479 => (if t479 = true then ((remontoirlaw18_knows.f kj46).bind fun t480 => (some t480)) else (some false)))) = some true := H
           have A101 := Aside0.mk A1010
           clear A1010
           replace H := Option.bind_eq_some_iff.mp H
           obtain ⟨t476, A1020, H⟩ := H
           replace H : ((remontoirlaw18_Same.f kj46 t473 t476).bind fun t479 => (if t479 = true then ((remontoirlaw18_knows.f kj46).bind fun t480 => (some t480)) else (some false))) = some true := H
           have A102 := Aside0.mk A1020
           clear A1020
           replace H := Option.bind_eq_some_iff.mp H
           obtain ⟨t479, A1030, H⟩ := H
           replace H : (if t479 = true then ((remontoirlaw18_knows.f kj46).bind fun t480 => (some t480)) else (some false)) = some true := H
           have A103 := Aside0.mk A1030
           clear A1030
           by_cases c104 : t479 = true
           ·
            subst c104
            have H1 : ((remontoirlaw18_knows.f kj46).bind fun t480 => (some t480)) = some true := by rw [if_pos rfl] at H; exact H
            clear H
            have H := H1
            clear H1
            replace H := Option.bind_eq_some_iff.mp H
            obtain ⟨t480, A1050, H⟩ := H
            replace H : (some t480) = some true := H
            have A105 := Aside0.mk A1050
            clear A1050
            have HR_ := Aside0.mk (Option.some.inj H)
            clear H
            try go_wp2
            have n0_ := Aside0.mk (Kd.V_drew HO_9.out)
            have n1_ := Aside0.mk (Kd.V_drew HO_12.out)
            have n2_ := Aside0.mk (Kd.N_drew HO_14.out)
            have n3_ := Aside0.mk (Kd.V_drew HO_440003.out)
            have n4_ := Aside0.mk (Kd.V_drew HO_440004.out)
            have n5_ := Aside0.mk (Kd.V_drew HO_452003.out)
            have n6_ := Aside0.mk (Kd.V_drew HO_452004.out)
            have n7_ := Aside0.mk (blk_drew BK439.out)
            have n8_ := Aside0.mk (blk_drew BK451.out)
            have n9_ := Aside0.mk (below_drew1 HB.out)
            clear HO_9 HO_12 HO_14 HO_440003 HO_440004 HO_452003 HO_452004 BK439 BK451 HB; have HO_9 := n0_; have HO_12 := n1_; have HO_14 := n2_; have HO_440003 := n3_; have HO_440004 := n4_; have HO_452003 := n5_; have HO_452004 := n6_; have BK439 := n7_; have BK451 := n8_; have HB := n9_; clear n0_ n1_ n2_ n3_ n4_ n5_ n6_ n7_ n8_ n9_
            obtain ⟨Ao107, co107, eo107⟩ := Kd.V_slice HO_12.out
            ((subst eo107))
            refine start_ (n := 28) (S := fun w' => w'.cell? ⟨gb451, 0, none⟩ = some (.int .i64 t441) ∧ w'.cell? ⟨gb451, 1, none⟩ = some (.int .i64 t442) ∧ w'.cell? ⟨gb451, 2, none⟩ = some (.int .i64 t443) ∧ w'.cell? ⟨gb451, 3, none⟩ = some (.slice Ao32 t444.length co32) ∧ w'.cell? ⟨gb451, 4, none⟩ = some (.slice Ao33 t447.length co33)) (ds := []) #[false, false, false, false, false, false, false, false, false, false, false, false, false, false, false, false, false, false, false, false, false, false, false, false, false, false, false, false] (by kernel_rfl) rfl rfl (bh5_ BK451.out) (fun hHeld => ?_); refine with_tabW remontoirlaw18_PortSends.tab14 remontoirlaw18_PortSends.bits14 (fun HT_ HW_ => ?_)
            generalize wc.drew = w106 at HO_9 HO_12 HO_14 HO_440003 HO_440004 HO_452003 HO_452004 BK439 BK451 HB hHeld ⊢
            refine pa_ 0 124 (bm 28 0x1) HT_ (h := ?_)
            refine pa_ 1 125 (bm 28 0x3) HT_ (h := ?_)
            refine pa_ 2 126 (bm 28 0x7) HT_ (h := ?_)
            refine pz_ 3 127 (bm 28 0xf) HT_ (h := ?_)
            refine pz_ 4 128 (bm 28 0x1f) HT_ (h := ?_)
            refine pz_ 5 129 (bm 28 0x3f) HT_ (h := ?_)
            refine pz_ 6 130 (bm 28 0x7f) HT_ (h := ?_)
            refine pz_ 7 131 (bm 28 0xff) HT_ (h := ?_)
            refine pz_ 8 132 (bm 28 0x1ff) HT_ (h := ?_)
            refine pz_ 9 133 (bm 28 0x3ff) HT_ (h := ?_)
            refine pa_ 10 134 (bm 28 0x7ff) HT_ (h := ?_)
            refine pa_ 11 135 (bm 28 0xfff) HT_ (h := ?_)
            refine pa_ 12 136 (bm 28 0x1fff) HT_ (h := ?_)
            refine pa_ 13 137 (bm 28 0x3fff) HT_ (h := ?_)
            refine pa_ 14 138 (bm 28 0x7fff) HT_ (h := ?_)
            refine pa_ 15 139 (bm 28 0xffff) HT_ (h := ?_)
            refine pa_ 17 141 (bm 28 0x2ffff) HT_ (h := ?_)
            refine pa_ 18 142 (bm 28 0x6ffff) HT_ (h := ?_)
            refine take_ (i := 19) (N := some 143) (v := ?_) (a' := ?_) (bm 28 0xeffff) rfl rfl (take_ofW HT_.out HW_.out (by kernel_rfl)) (fun _ _ _ h => h) (Or.inl ⟨by rfl, ?_⟩) hHeld ?_ ?_
            rotate_left
            ·
             rintro w' ⟨s0, s1, s2, s3, s4⟩
             go_simp
             with_reducible rfl
            rotate_left
            ·
             simp only [Act.put, sbA, sbB, sbC, i64_w, i32_w]
             rfl
            refine one_ (i := 16) (N := some 140) (bm 28 0xfffff) rfl rfl (one_of HT_.out (by kernel_rfl)) (by decide) (fun K hK => ?_)
            refine goes_ Try.func35 (by kernel_rfl) rfl #[.slice Ao107 t418.length co107] (by rfl) rfl rfl (by (try simp only [List.map_toArray, List.map_cons, List.map_nil]); rfl) ?_
            with_reducible refine (remontoirlaw18_As.calls kj46 _ _ t418 t473 _ ?side1 ?side2 A101.out).mono ?_
            (case side1 => repeat ((exact (Kd.V_reads' HO_12.out).2.2)))
            (case side2 => exact (Kd.V_reads' HO_12.out).2.1)
            rintro e w108 ⟨v474, rfl, ho0, hb⟩
            refine ⟨_, rfl, ?_⟩
            have n0_ := Aside0.mk (Kd.V_elder' HO_9.out (by (exact Kd.N_base (Kd.S_N ho0))) hb)
            have n1_ := Aside0.mk (Kd.V_elder' HO_12.out (by (exact Kd.N_base (Kd.S_N ho0))) hb)
            have n2_ := Aside0.mk (Kd.N_elder' HO_14.out (by (exact Kd.N_base (Kd.S_N ho0))) hb)
            have n3_ := Aside0.mk (Kd.V_elder' HO_440003.out (by (exact Kd.N_base (Kd.S_N ho0))) hb)
            have n4_ := Aside0.mk (Kd.V_elder' HO_440004.out (by (exact Kd.N_base (Kd.S_N ho0))) hb)
            have n5_ := Aside0.mk (Kd.V_elder' HO_452003.out (by (exact Kd.N_base (Kd.S_N ho0))) hb)
            have n6_ := Aside0.mk (Kd.V_elder' HO_452004.out (by (exact Kd.N_base (Kd.S_N ho0))) hb)
            have n7_ := Aside0.mk (Kd.N_lower (Kd.N_mono (ok' := fun k_ => some k_ ≠ (.slice Ao21 t426.length co21 : Value).ownBlock ∧ k_ ≠ gb439 ∧ k_ ≠ gb451) (Kd.S_N (Kd.S_bound ho0)) (fun k_ hk_ => ⟨(Kd.fresh' (Kd.N_lt HO_14.out) k_ hk_.2.1), (Kd.freshB BK439.out k_ hk_.2.1), (Kd.freshB BK451.out k_ hk_.2.1)⟩)) (below_size HB.out))
            clear HO_9 HO_12 HO_14 HO_440003 HO_440004 HO_452003 HO_452004; have HO_9 := n0_; have HO_12 := n1_; have HO_14 := n2_; have HO_440003 := n3_; have HO_440004 := n4_; have HO_452003 := n5_; have HO_452004 := n6_; have HO475 := n7_; clear n0_ n1_ n2_ n3_ n4_ n5_ n6_ n7_; replace BK439 := kb_ BK439 hb; replace BK451 := kb_ BK451 hb; replace HB := hb_ HB hb
            (try clear hb)
            (try clear hb2)
            (try clear hk)
            (try clear hi)
            (try clear ho0)
            refine hK.out _ _ (bh5_ BK451.out) (fun hHeld => ?_)
            clear hK K
            refine nm_ 140 (h := ?_)
            refine one_ (i := 20) (N := some 144) (bm 28 0x1fffff) rfl rfl (one_of HT_.out (by kernel_rfl)) (by decide) (fun K hK => ?_)
            refine goes_ Try.func39 (by kernel_rfl) rfl #[.slice Ao21 t426.length co21, .int .i64 a2, .agg #[.int .i64 t441, .int .i64 t442, .int .i64 t443, .slice Ao32 t444.length co32, .slice Ao33 t447.length co33]] (by rfl) rfl rfl (by (try simp only [List.map_toArray, List.map_cons, List.map_nil]); rfl) ?_
            with_reducible refine (remontoirref18_With.calls (fun k_ => ((k_ ≠ gb439 ∧ k_ ≠ gb451) ∧ some k_ ≠ (v474 : Value).ownBlock)) _ _ t426 a2 t441 t442 t443 (fun k_ => ((k_ ≠ gb439 ∧ k_ ≠ gb451) ∧ some k_ ≠ (v474 : Value).ownBlock)) _ _ t444 (fun k_ => ((k_ ≠ gb439 ∧ k_ ≠ gb451) ∧ some k_ ≠ (v474 : Value).ownBlock)) _ _ t447 t476 _ ?side1 ?side2 ?side3 A102.out).mono ?_
            (case side1 => exact Kd.N_V (HO_14.out))
            (case side2 => exact HO_452003.out)
            (case side3 => exact HO_452004.out)
            rintro e w109 ⟨v477, rfl, ho0, hb⟩
            refine ⟨_, rfl, ?_⟩
            have n0_ := Aside0.mk (Kd.V_elder' HO_9.out (by (exact Kd.N_base ho0)) hb)
            have n1_ := Aside0.mk (Kd.V_elder' HO_12.out (by (exact Kd.N_base ho0)) hb)
            have n2_ := Aside0.mk (Kd.N_elder' HO_14.out (by (exact Kd.N_base ho0)) hb)
            have n3_ := Aside0.mk (Kd.V_elder' HO_440003.out (by (exact Kd.N_base ho0)) hb)
            have n4_ := Aside0.mk (Kd.V_elder' HO_440004.out (by (exact Kd.N_base ho0)) hb)
            have n5_ := Aside0.mk (Kd.V_elder' HO_452003.out (by (exact Kd.N_base ho0)) hb)
            have n6_ := Aside0.mk (Kd.V_elder' HO_452004.out (by (exact Kd.N_base ho0)) hb)
            have n7_ := Aside0.mk (Kd.N_elder' HO475.out (by (exact Kd.N_base ho0)) hb)
            have n8_ := Aside0.mk (Kd.N_lower (Kd.N_mono (ok' := fun k_ => some k_ ≠ (v474 : Value).ownBlock ∧ k_ ≠ gb439 ∧ k_ ≠ gb451) ho0 (fun k_ hk_ => ⟨Or.elim hk_ (fun hs_ => Or.elim hs_ (fun hs_ => hs_.2) (fun hs_ => Or.elim hs_ (fun hs_ => hs_.2) (fun hs_ => hs_.2))) (fun hn_ => (Kd.fresh' (Kd.N_lt HO475.out) k_ hn_)), Or.elim hk_ (fun hs_ => Or.elim hs_ (fun hs_ => hs_.1.1) (fun hs_ => Or.elim hs_ (fun hs_ => hs_.1.1) (fun hs_ => hs_.1.1))) (fun hn_ => (Kd.freshB BK439.out k_ hn_)), Or.elim hk_ (fun hs_ => Or.elim hs_ (fun hs_ => hs_.1.2) (fun hs_ => Or.elim hs_ (fun hs_ => hs_.1.2) (fun hs_ => hs_.1.2))) (fun hn_ => (Kd.freshB BK451.out k_ hn_))⟩)) (below_size HB.out))
            clear HO_9 HO_12 HO_14 HO_440003 HO_440004 HO_452003 HO_452004 HO475; have HO_9 := n0_; have HO_12 := n1_; have HO_14 := n2_; have HO_440003 := n3_; have HO_440004 := n4_; have HO_452003 := n5_; have HO_452004 := n6_; have HO475 := n7_; have HO478 := n8_; clear n0_ n1_ n2_ n3_ n4_ n5_ n6_ n7_ n8_; replace BK439 := kb_ BK439 hb; replace BK451 := kb_ BK451 hb; replace HB := hb_ HB hb
            (try clear hb)
            (try clear hb2)
            (try clear hk)
            (try clear hi)
            (try clear ho0)
            obtain ⟨Ao110, co110, eo110⟩ := Kd.N_slice HO475.out
            ((subst eo110))
            obtain ⟨Ao111, co111, eo111⟩ := Kd.N_slice HO478.out
            ((subst eo111))
            refine hK.out _ _ (bh5_ BK451.out) (fun hHeld => ?_)
            clear hK K
            refine nm_ 144 (h := ?_)
            refine one_ (i := 21) (N := some 145) (bm 28 0x3fffff) rfl rfl (one_of HT_.out (by kernel_rfl)) (by decide) (fun K hK => ?_)
            refine goes_ Try.func38 (by kernel_rfl) rfl #[.slice Ao110 t473.length co110, .slice Ao111 t476.length co111] (by rfl) rfl rfl (by (try simp only [List.map_toArray, List.map_cons, List.map_nil]); rfl) ?_
            with_reducible refine (remontoirlaw18_Same.calls kj46 _ _ t473 _ _ t476 true _ ?side1 ?side2 ?side3 ?side4 A103.out).mono ?_
            (case side1 => repeat ((exact (Kd.N_reads' HO475.out).2.2)))
            (case side2 => exact (Kd.N_reads' HO475.out).2.1)
            (case side3 => repeat ((exact (Kd.N_reads' HO478.out).2.2)))
            (case side4 => exact (Kd.N_reads' HO478.out).2.1)
            rintro e w112 ⟨rfl, hb⟩
            refine ⟨_, rfl, ?_⟩
            replace HO_9 := vb_ HO_9 hb; replace HO_12 := vb_ HO_12 hb; replace HO_14 := nb_ HO_14 hb; replace HO_440003 := vb_ HO_440003 hb; replace HO_440004 := vb_ HO_440004 hb; replace HO_452003 := vb_ HO_452003 hb; replace HO_452004 := vb_ HO_452004 hb; replace HO475 := nb_ HO475 hb; replace HO478 := nb_ HO478 hb; replace BK439 := kb_ BK439 hb; replace BK451 := kb_ BK451 hb; replace HB := hb_ HB hb
            (try clear hb)
            (try clear hb2)
            (try clear hk)
            (try clear hi)
            refine hK.out _ _ (bh5_ BK451.out) (fun hHeld => ?_)
            clear hK K
            refine nm_ 145 (h := ?_)
            refine pa_ 22 146 (bm 28 0x7fffff) HT_ (h := ?_)
            refine pa_ 23 147 (bm 28 0xffffff) HT_ (h := ?_)
            refine pa_ 24 148 (bm 28 0x1ffffff) HT_ (h := ?_)
            refine one_ (i := 25) (N := some 149) (bm 28 0x3ffffff) rfl rfl (one_of HT_.out (by kernel_rfl)) (by decide) (fun K hK => ?_)
            refine goes_ Try.func27 (by kernel_rfl) rfl #[] (by rfl) rfl rfl (by (try simp only [List.map_toArray, List.map_cons, List.map_nil]); done) ?_
            with_reducible refine (remontoirlaw18_knows.calls kj46  t480 _ A105.out).mono ?_
            rintro e w113 ⟨rfl, hb⟩
            refine ⟨_, rfl, ?_⟩
            replace HO_9 := vb_ HO_9 hb; replace HO_12 := vb_ HO_12 hb; replace HO_14 := nb_ HO_14 hb; replace HO_440003 := vb_ HO_440003 hb; replace HO_440004 := vb_ HO_440004 hb; replace HO_452003 := vb_ HO_452003 hb; replace HO_452004 := vb_ HO_452004 hb; replace HO475 := nb_ HO475 hb; replace HO478 := nb_ HO478 hb; replace BK439 := kb_ BK439 hb; replace BK451 := kb_ BK451 hb; replace HB := hb_ HB hb
            (try clear hb)
            (try clear hb2)
            (try clear hk)
            (try clear hi)
            refine hK.out _ _ (bh5_ BK451.out) (fun hHeld => ?_)
            clear hK K
            refine nm_ 149 (h := ?_)
            refine pa_ 26 150 (bm 28 0x7ffffff) HT_ (h := ?_)
            refine pa_ 27 8 (bm 28 0xfffffff) HT_ (h := ?_)
            refine done_ (done_of HT_.out (by kernel_rfl)) ?_
            try go_wp2
            go_ret
            exact ⟨by (rw [HR_.out] <;> rfl), by repeat ((with_reducible (exact HB.out)))⟩
           ·
            replace c104 := Bool.eq_false_iff.mpr c104
            subst c104
            have H1 : (some false) = some true := by rw [if_neg (show ¬ (false = true) by decide)] at H; exact H
            clear H
            have H := H1
            clear H1
            exact absurd H (by simp)
          ·
           rw [if_neg c100] at H
           have c100b0 : (t450 == 0) = false := beq_eq_false_iff_ne.mpr c100
           have c100b1 : (t450 != 0) = true := bne_iff_ne.mpr c100
           replace H := Option.bind_eq_some_iff.mp H
           obtain ⟨t481, A1140, H⟩ := H
           replace H : (some t481) = some true := H
           have A114 := Aside0.mk A1140
           clear A1140
           have HR_ := Aside0.mk (Option.some.inj H)
           clear H
           try go_wp2
           have n0_ := Aside0.mk (Kd.V_drew HO_9.out)
           have n1_ := Aside0.mk (Kd.V_drew HO_12.out)
           have n2_ := Aside0.mk (Kd.N_drew HO_14.out)
           have n3_ := Aside0.mk (Kd.V_drew HO_440003.out)
           have n4_ := Aside0.mk (Kd.V_drew HO_440004.out)
           have n5_ := Aside0.mk (Kd.V_drew HO_452003.out)
           have n6_ := Aside0.mk (Kd.V_drew HO_452004.out)
           have n7_ := Aside0.mk (blk_drew BK439.out)
           have n8_ := Aside0.mk (blk_drew BK451.out)
           have n9_ := Aside0.mk (below_drew1 HB.out)
           clear HO_9 HO_12 HO_14 HO_440003 HO_440004 HO_452003 HO_452004 BK439 BK451 HB; have HO_9 := n0_; have HO_12 := n1_; have HO_14 := n2_; have HO_440003 := n3_; have HO_440004 := n4_; have HO_452003 := n5_; have HO_452004 := n6_; have BK439 := n7_; have BK451 := n8_; have HB := n9_; clear n0_ n1_ n2_ n3_ n4_ n5_ n6_ n7_ n8_ n9_
           refine start_ (n := 28) (S := fun w' => True) (ds := []) #[false, false, false, false, false, false, false, false, false, false, false, false, false, false, false, false, false, false, false, false, false, false, false, false, false, false, false, false] (by kernel_rfl) rfl rfl trivial (fun hHeld => ?_); refine with_tabW remontoirlaw18_PortSends.tab14 remontoirlaw18_PortSends.bits14 (fun HT_ HW_ => ?_)
           generalize wc.drew = w115 at HO_9 HO_12 HO_14 HO_440003 HO_440004 HO_452003 HO_452004 BK439 BK451 HB hHeld ⊢
           refine pa_ 0 124 (bm 28 0x1) HT_ (h := ?_)
           refine pa_ 1 125 (bm 28 0x3) HT_ (h := ?_)
           refine pa_ 2 126 (bm 28 0x7) HT_ (h := ?_)
           refine pz_ 3 127 (bm 28 0xf) HT_ (h := ?_)
           refine pz_ 4 128 (bm 28 0x1f) HT_ (h := ?_)
           refine pz_ 5 129 (bm 28 0x3f) HT_ (h := ?_)
           refine pz_ 6 130 (bm 28 0x7f) HT_ (h := ?_)
           refine pz_ 7 131 (bm 28 0xff) HT_ (h := ?_)
           refine pz_ 8 132 (bm 28 0x1ff) HT_ (h := ?_)
           refine pz_ 9 133 (bm 28 0x3ff) HT_ (h := ?_)
           refine pa_ 10 134 (bm 28 0x7ff) HT_ (h := ?_)
           refine pa_ 11 135 (bm 28 0xfff) HT_ (h := ?_)
           refine pa_ 12 136 (bm 28 0x1fff) HT_ (h := ?_)
           refine pa_ 13 137 (bm 28 0x3fff) HT_ (h := ?_)
           refine pa_ 14 138 (bm 28 0x7fff) HT_ (h := ?_)
           refine pz_ 15 139 (bm 28 0xffff) HT_ (h := ?_)
           refine pz_ 16 140 (bm 28 0x1ffff) HT_ (h := ?_)
           refine pz_ 17 141 (bm 28 0x3ffff) HT_ (h := ?_)
           refine pz_ 18 142 (bm 28 0x7ffff) HT_ (h := ?_)
           refine pz_ 19 143 (bm 28 0xfffff) HT_ (h := ?_)
           refine pz_ 20 144 (bm 28 0x1fffff) HT_ (h := ?_)
           refine pz_ 21 145 (bm 28 0x3fffff) HT_ (h := ?_)
           refine pa_ 22 146 (bm 28 0x7fffff) HT_ (h := ?_)
           refine pa_ 23 147 (bm 28 0xffffff) HT_ (h := ?_)
           refine pa_ 24 148 (bm 28 0x1ffffff) HT_ (h := ?_)
           refine one_ (i := 25) (N := some 149) (bm 28 0x3ffffff) rfl rfl (one_of HT_.out (by kernel_rfl)) (by decide) (fun K hK => ?_)
           refine goes_ Try.func27 (by kernel_rfl) rfl #[] (by rfl) rfl rfl (by (try simp only [List.map_toArray, List.map_cons, List.map_nil]); done) ?_
           with_reducible refine (remontoirlaw18_knows.calls kj46  t481 _ A114.out).mono ?_
           rintro e w116 ⟨rfl, hb⟩
           refine ⟨_, rfl, ?_⟩
           replace HO_9 := vb_ HO_9 hb; replace HO_12 := vb_ HO_12 hb; replace HO_14 := nb_ HO_14 hb; replace HO_440003 := vb_ HO_440003 hb; replace HO_440004 := vb_ HO_440004 hb; replace HO_452003 := vb_ HO_452003 hb; replace HO_452004 := vb_ HO_452004 hb; replace BK439 := kb_ BK439 hb; replace BK451 := kb_ BK451 hb; replace HB := hb_ HB hb
           (try clear hb)
           (try clear hb2)
           (try clear hk)
           (try clear hi)
           refine hK.out _ _ trivial (fun hHeld => ?_)
           clear hK K
           refine nm_ 149 (h := ?_)
           refine pa_ 26 150 (bm 28 0x7ffffff) HT_ (h := ?_)
           refine pa_ 27 8 (bm 28 0xfffffff) HT_ (h := ?_)
           refine done_ (done_of HT_.out (by kernel_rfl)) ?_
           try go_wp2
           go_ret
           exact ⟨by (rw [HR_.out] <;> rfl), by repeat ((with_reducible (exact HB.out)))⟩
  ·
   replace c12 := Bool.eq_false_iff.mpr c12
   subst c12
   have H1 : ((remontoirlaw18_stays.f k t413 l0).bind fun t423 => (if t423 = true then (if t416 = 1 then (if t417 = 0 then ((remontoirlaw18_stays.f k t418 l0).bind fun t424 => (if t424 = true then (if t421 = 1 then ((remontoirlaw18_knows.f k).bind fun t425 => (some t425)) else (some false)) else (some false))) else (some false)) else (some false)) else (some false))) = some true := by rw [if_neg (show ¬ (false = true) by decide)] at H; exact H
   clear H
   have H := H1
   clear H1
   replace H := Option.bind_eq_some_iff.mp H
   obtain ⟨t423, A1170, H⟩ := H
   replace H : (if t423 = true then (if t416 = 1 then (if t417 = 0 then ((remontoirlaw18_stays.f k t418 l0).bind fun t424 => (if t424 = true then (if t421 = 1 then ((remontoirlaw18_knows.f k).bind fun t425 => (some t425)) else (some false)) else (some false))) else (some false)) else (some false)) else (some false)) = some true := H
   have A117 := Aside0.mk A1170
   clear A1170
   by_cases c118 : t423 = true
   ·
    subst c118
    have H1 : (if t416 = 1 then (if t417 = 0 then ((remontoirlaw18_stays.f k t418 l0).bind fun t424 => (if t424 = true then (if t421 = 1 then ((remontoirlaw18_knows.f k).bind fun t425 => (some t425)) else (some false)) else (some false))) else (some false)) else (some false)) = some true := by rw [if_pos rfl] at H; exact H
    clear H
    have H := H1
    clear H1
    by_cases c119 : t416 = 1
    ·
     rw [if_pos c119] at H
     have c119b0 : (t416 == 1) = true := beq_iff_eq.mpr c119
     have c119b1 : (t416 != 1) = false := bne_eq_false_iff_eq.mpr c119
     clear c119
     by_cases c120 : t417 = 0
     ·
      rw [if_pos c120] at H
      have c120b0 : (t417 == 0) = true := beq_iff_eq.mpr c120
      have c120b1 : (t417 != 0) = false := bne_eq_false_iff_eq.mpr c120
      clear c120
      replace H := Option.bind_eq_some_iff.mp H
      obtain ⟨t424, A1210, H⟩ := H
      replace H : (if t424 = true then (if t421 = 1 then ((remontoirlaw18_knows.f k).bind fun t425 => (some t425)) else (some false)) else (some false)) = some true := H
      have A121 := Aside0.mk A1210
      clear A1210
      by_cases c122 : t424 = true
      ·
       subst c122
       have H1 : (if t421 = 1 then ((remontoirlaw18_knows.f k).bind fun t425 => (some t425)) else (some false)) = some true := by rw [if_pos rfl] at H; exact H
       clear H
       have H := H1
       clear H1
       by_cases c123 : t421 = 1
       ·
        rw [if_pos c123] at H
        have c123b0 : (t421 == 1) = true := beq_iff_eq.mpr c123
        have c123b1 : (t421 != 1) = false := bne_eq_false_iff_eq.mpr c123
        clear c123
        replace H := Option.bind_eq_some_iff.mp H
        obtain ⟨t425, A1240, H⟩ := H
        replace H : (some t425) = some true := H
        have A124 := Aside0.mk A1240
        clear A1240
        have HR_ := Aside0.mk (Option.some.inj H)
        clear H
        go_enter Try.func9, Try.ntmps9
        go_wp2_with (first | ((with_reducible refine gate_callee (f := 32) rfl ?_); refine goesL_ (some 21) rfl rfl Try.func32 (by kernel_rfl) rfl #[.slice A0 l0.length c0] rfl (by (try simp only [List.map_toArray, List.map_cons, List.map_nil]); rfl) ?_; (with_reducible refine (remontoirlaw18_great.calls k _ _ l0 false _ ?side1 ?side2 A5.out).mono ?_); (case side1 => repeat ((exact HR0.out))); (case side2 => exact HC0.out); rintro e w' ⟨rfl, ⟨nd, rfl⟩⟩; refine ⟨_, rfl, ?_⟩) | ((with_reducible refine gate_callee (f := 28) rfl ?_); refine goesL_ (some 28) rfl rfl Try.func28 (by kernel_rfl) rfl #[.slice A0 l0.length c0, .int .i64 a1, .int .i64 a2, .int .i64 a3] rfl (by (try simp only [List.map_toArray, List.map_cons, List.map_nil]); rfl) ?_; (with_reducible refine (port_Send.calls k (fun k_ => k_ < w.heap.size) _ _ l0 a1 a2 a3 t413 t416 _ ?side1 A9.out).mono ?_); (case side1 => exact Kd.V_mk HC0.out (Kd.F_below (Kd.C_F k76_heap HR0.out) (by repeat ((with_reducible first | exact HB.out | apply pw_below_drewN))))); rintro e w125 ⟨v414, rfl, ho0, hb⟩; refine ⟨_, rfl, ?_⟩; have n0_ := Aside0.mk (Kd.V_lower (Kd.V_mono (ok' := fun k_ => True) ho0 (fun k_ hk_ => trivial)) (below_size (by repeat ((with_reducible first | exact HB.out | apply pw_below_drewN))))); have n1_ := Aside0.mk (below_step (by repeat ((with_reducible first | exact HB.out | apply pw_below_drewN))) hb); clear HB; have HO415 := n0_; have HB := n1_; clear n0_ n1_; (try clear hb); (try clear hb2); (try clear hk); (try clear hi); (try clear ho0)) | ((with_reducible refine gate_callee (f := 29) rfl ?_); refine goesL_ (some 35) rfl rfl Try.func29 (by kernel_rfl) rfl #[.slice A0 l0.length c0, .int .i64 a1, .int .i64 a2] rfl (by (try simp only [List.map_toArray, List.map_cons, List.map_nil]); rfl) ?_; (with_reducible refine (port_Read.calls k (fun k_ => k_ < w.heap.size) _ _ l0 a1 a2 t417 t418 t421 _ ?side1 A10.out).mono ?_); (case side1 => exact Kd.V_mk HC0.out (Kd.F_below (Kd.C_F k76_heap HR0.out) HB.out)); rintro e w126 ⟨v419, rfl, ho0, hb⟩; refine ⟨_, rfl, ?_⟩; have n1_ := Aside0.mk (Kd.V_lower (Kd.V_mono (ok' := fun k_ => True) ho0 (fun k_ hk_ => trivial)) (below_size HB.out)); have HO420 := n1_; clear n1_; replace HO415 := vb_ HO415 hb; replace HB := hb_ HB hb; (try clear hb); (try clear hb2); (try clear hk); (try clear hi); (try clear ho0)) | ((with_reducible refine gate_callee (f := 33) rfl ?_); refine goesL_ (some 40) rfl rfl Try.func33 (by kernel_rfl) rfl #[.slice A0 l0.length c0] rfl (by (try simp only [List.map_toArray, List.map_cons, List.map_nil]); rfl) ?_; (with_reducible refine (remontoirlaw18_right.calls k _ _ l0 false _ ?side1 ?side2 A11.out).mono ?_); (case side1 => repeat ((exact (Kd.C_below HR0.out HB.out)))); (case side2 => exact HC0.out); rintro e w127 ⟨rfl, hb⟩; refine ⟨_, rfl, ?_⟩; replace HO415 := vb_ HO415 hb; replace HO420 := vb_ HO420 hb; replace HB := hb_ HB hb; (try clear hb); (try clear hb2); (try clear hk); (try clear hi); obtain ⟨Ao128, co128, eo128⟩ := Kd.V_slice HO415.out; subst eo128) | ((with_reducible refine gate_callee (f := 34) rfl ?_); refine goesL_ (some 44) rfl rfl Try.func34 (by kernel_rfl) rfl #[.slice Ao128 t413.length co128, .slice A0 l0.length c0] rfl (by (try simp only [List.map_toArray, List.map_cons, List.map_nil]); rfl) ?_; (with_reducible refine (remontoirlaw18_stays.calls k _ _ t413 _ _ l0 true _ ?side1 ?side2 ?side3 ?side4 A117.out).mono ?_); (case side1 => repeat ((exact (Kd.V_reads' HO415.out).2.2))); (case side2 => exact (Kd.V_reads' HO415.out).2.1); (case side3 => repeat ((exact (Kd.C_below HR0.out HB.out)))); (case side4 => exact HC0.out); rintro e w129 ⟨rfl, hb⟩; refine ⟨_, rfl, ?_⟩; replace HO415 := vb_ HO415 hb; replace HO420 := vb_ HO420 hb; replace HB := hb_ HB hb; (try clear hb); (try clear hb2); (try clear hk); (try clear hi); obtain ⟨Ao130, co130, eo130⟩ := Kd.V_slice HO420.out; subst eo130) | (go_at_call 34; (with_reducible refine (remontoirlaw18_stays.calls k _ _ t418 _ _ l0 true _ ?side1 ?side2 ?side3 ?side4 A121.out).mono ?_); (case side1 => repeat ((exact (Kd.V_reads' HO420.out).2.2))); (case side2 => exact (Kd.V_reads' HO420.out).2.1); (case side3 => repeat ((exact (Kd.C_below HR0.out HB.out)))); (case side4 => exact HC0.out); rintro e w131 ⟨rfl, hb⟩; replace HO415 := vb_ HO415 hb; replace HO420 := vb_ HO420 hb; replace HB := hb_ HB hb; (try clear hb); (try clear hb2); (try clear hk); (try clear hi)) | (go_at_call 27; (with_reducible refine (remontoirlaw18_knows.calls k  t425 _ A124.out).mono ?_); rintro e w132 ⟨rfl, hb⟩; replace HO415 := vb_ HO415 hb; replace HO420 := vb_ HO420 hb; replace HB := hb_ HB hb; (try clear hb); (try clear hb2); (try clear hk); (try clear hi)))
        go_ret
        exact ⟨by (rw [HR_.out] <;> rfl), by repeat ((with_reducible (exact HB.out)))⟩
       ·
        rw [if_neg c123] at H
        have c123b0 : (t421 == 1) = false := beq_eq_false_iff_ne.mpr c123
        have c123b1 : (t421 != 1) = true := bne_iff_ne.mpr c123
        exact absurd H (by simp)
      ·
       replace c122 := Bool.eq_false_iff.mpr c122
       subst c122
       have H1 : (some false) = some true := by rw [if_neg (show ¬ (false = true) by decide)] at H; exact H
       clear H
       have H := H1
       clear H1
       exact absurd H (by simp)
     ·
      rw [if_neg c120] at H
      have c120b0 : (t417 == 0) = false := beq_eq_false_iff_ne.mpr c120
      have c120b1 : (t417 != 0) = true := bne_iff_ne.mpr c120
      exact absurd H (by simp)
    ·
     rw [if_neg c119] at H
     have c119b0 : (t416 == 1) = false := beq_eq_false_iff_ne.mpr c119
     have c119b1 : (t416 != 1) = true := bne_iff_ne.mpr c119
     exact absurd H (by simp)
   ·
    replace c118 := Bool.eq_false_iff.mpr c118
    subst c118
    have H1 : (some false) = some true := by rw [if_neg (show ¬ (false = true) by decide)] at H; exact H
    clear H
    have H := H1
    clear H1
    exact absurd H (by simp)

/-- The statement of remontoirlaw18_PortSends over plain data. -/
def remontoirlaw18_PortSends.Pure : Prop := ∀ (l0 : List (S76)) (a1 : Int) (a2 : Int) (a3 : Int), (l0.length ≤ 9223372036854775807 ∧ ∀ x ∈ l0, (((Lit.int .i64 x.f0.f0).wf = true ∧ ((Lit.int .i64 x.f0.f1).wf = true ∧ (Lit.int .i64 x.f0.f2).wf = true)) ∧ (((x.f1.f0.length ≤ 9223372036854775807 ∧ ∀ y ∈ x.f1.f0, (Lit.int .i64 y).wf = true) ∧ ((Lit.int .i64 x.f1.f1).wf = true ∧ (Lit.int .i64 x.f1.f2).wf = true)) ∧ ((x.f2.f0.length ≤ 9223372036854775807 ∧ ∀ y ∈ x.f2.f0, (Lit.int .i64 y).wf = true) ∧ ((Lit.int .i64 x.f2.f1).wf = true ∧ (Lit.int .i64 x.f2.f2).wf = true))))) → (Lit.int .i64 a1).wf = true → (Lit.int .i64 a2).wf = true → (Lit.int .i64 a3).wf = true → ∃ k, remontoirlaw18_PortSends.f k l0 a1 a2 a3 = some true

end Go.Proofs.Yteddflcloeelhaa.FPort
