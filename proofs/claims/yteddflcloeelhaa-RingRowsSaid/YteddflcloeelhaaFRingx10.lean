-- Written by the session (wip/tools) for this claim: functions of the program as Lean functions, and their contracts.
import Derived.Test.YteddflcloeelhaaFRingx0
import Derived.Test.YteddflcloeelhaaFRingx1
import Derived.Test.YteddflcloeelhaaFRingx2
import Derived.Test.YteddflcloeelhaaFRingx3
namespace Go.Proofs.Yteddflcloeelhaa.FRing
open Go.RowKit Go.Proofs.YteddflcloeelhaaW.PrintWords Go.Proofs.YteddflcloeelhaaW.PrintLast Go.Proofs.YteddflcloeelhaaW.PrintMore
attribute [local go_sem] max2_int min2_int max_two min_two max_three min_three max_four min_four   -- for this text's walks alone
set_option linter.unusedVariables false
set_option linter.unusedSimpArgs false

/-! ### remontoirlaw03_RingRows: function 7 -/
mutual
def remontoirlaw03_RingRows.l0 : Nat → Int → List Int → List Bool → List Int → Int → List Int → Int → Int → Option (Bool)
 | 0, _, _, _, _, _, _, _, _ => none
 | k + 1, x0, x1, x2, x9, x10, x422000, x422001, x422002 => if x10 < (x1.length : Int) then (if x10 < (x2.length : Int) then (remontoirlaw03_RingRows.j1 k x0 x1 x2 x9 x10 (decide (x10 < 60)) x422000 x422001 x422002) else (remontoirlaw03_RingRows.j1 k x0 x1 x2 x9 x10 false x422000 x422001 x422002)) else (remontoirlaw03_RingRows.j1 k x0 x1 x2 x9 x10 false x422000 x422001 x422002)
def remontoirlaw03_RingRows.j1 : Nat → Int → List Int → List Bool → List Int → Int → Bool → List Int → Int → Int → Option (Bool)
 | 0, _, _, _, _, _, _, _, _, _ => none
 | k + 1, x0, x1, x2, x9, x10, x43, x422000, x422001, x422002 => if x43 = true then (if 0 ≤ x10 then (if x10 < (x2.length : Int) then (if rdOf false x2 x10 = true then ((ring_Pop.f k x422000 x422001 x422002).bind fun bt424 => (if (x9.length : Int) = 0 then (if bt424.2.2.2.2 = 4 then (if (x9.length : Int) > 0 then (if bt424.2.2.2.2 = 0 then (if 0 < (x9.length : Int) then (remontoirlaw03_RingRows.j2 k x0 x1 x2 x9 x10 (bt424.1 != (rd x9 0)) bt424.2.1 bt424.2.2.1 bt424.2.2.2.1) else (none)) else (remontoirlaw03_RingRows.j2 k x0 x1 x2 x9 x10 true bt424.2.1 bt424.2.2.1 bt424.2.2.2.1)) else (remontoirlaw03_RingRows.j2 k x0 x1 x2 x9 x10 false bt424.2.1 bt424.2.2.1 bt424.2.2.2.1)) else (remontoirlaw03_RingRows.j2 k x0 x1 x2 x9 x10 true bt424.2.1 bt424.2.2.1 bt424.2.2.2.1)) else (if (x9.length : Int) > 0 then (if bt424.2.2.2.2 = 0 then (if 0 < (x9.length : Int) then (remontoirlaw03_RingRows.j2 k x0 x1 x2 x9 x10 (bt424.1 != (rd x9 0)) bt424.2.1 bt424.2.2.1 bt424.2.2.2.1) else (none)) else (remontoirlaw03_RingRows.j2 k x0 x1 x2 x9 x10 true bt424.2.1 bt424.2.2.1 bt424.2.2.2.1)) else (remontoirlaw03_RingRows.j2 k x0 x1 x2 x9 x10 false bt424.2.1 bt424.2.2.1 bt424.2.2.2.1)))) else (if x10 < (x1.length : Int) then ((ring_Push.f k x422000 x422001 x422002 (rd x1 x10)).bind fun bt438 => (if ((bt438.2.2.2 == 0) != (decide ((x9.length : Int) < x0))) = true then (some false) else (if bt438.2.2.2 = 0 then ((some (([] : List Int) : List Int)).bind fun y445 => (if y445.length + x9.length < 17592186044416 then ((some (y445 ++ x9 : List Int)).bind fun y448 => ((some (([rd x1 x10] : List Int) : List Int)).bind fun y452 => (if y448.length + y452.length < 17592186044416 then (remontoirlaw03_RingRows.j4 k x0 x1 x2 (y448 ++ y452) x10 bt438.1 bt438.2.1 bt438.2.2.1) else (none)))) else (none))) else (remontoirlaw03_RingRows.j4 k x0 x1 x2 x9 x10 bt438.1 bt438.2.1 bt438.2.2.1)))) else (none))) else (none)) else (none)) else ((ring_List.f k x422000 x422001 x422002).bind fun t458 => ((remontoirref03_SameList.f k t458 x9).bind fun t461 => (if t461 = true then ((ring_Right.f k x422000 x422001 x422002).bind fun t462 => (if t462 = true then ((remontoirlaw03_knows.f k).bind fun t463 => (remontoirlaw03_RingRows.j6 k t463)) else (remontoirlaw03_RingRows.j6 k false))) else (remontoirlaw03_RingRows.j6 k false))))
def remontoirlaw03_RingRows.j5 : Nat → Int → List Int → List Bool → List Int → Int → List Int → Int → Int → Option (Bool)
 | 0, _, _, _, _, _, _, _, _ => none
 | k + 1, x0, x1, x2, x9, x10, x422000, x422001, x422002 => remontoirlaw03_RingRows.l0 k x0 x1 x2 x9 (wrap64 (x10 + 1)) x422000 x422001 x422002
def remontoirlaw03_RingRows.j2 : Nat → Int → List Int → List Bool → List Int → Int → Bool → List Int → Int → Int → Option (Bool)
 | 0, _, _, _, _, _, _, _, _, _ => none
 | k + 1, x0, x1, x2, x9, x10, x78, x432000, x432001, x432002 => if x78 = true then (some false) else (if (x9.length : Int) > 0 then (if 1 ≤ (x9.length : Int) then (remontoirlaw03_RingRows.j3 k x0 x1 x2 (x9.drop (1 : Int).toNat) x10 x432000 x432001 x432002) else (none)) else (remontoirlaw03_RingRows.j3 k x0 x1 x2 x9 x10 x432000 x432001 x432002))
def remontoirlaw03_RingRows.j3 : Nat → Int → List Int → List Bool → List Int → Int → List Int → Int → Int → Option (Bool)
 | 0, _, _, _, _, _, _, _, _ => none
 | k + 1, x0, x1, x2, x9, x10, x432000, x432001, x432002 => remontoirlaw03_RingRows.j5 k x0 x1 x2 x9 x10 x432000 x432001 x432002
def remontoirlaw03_RingRows.j4 : Nat → Int → List Int → List Bool → List Int → Int → List Int → Int → Int → Option (Bool)
 | 0, _, _, _, _, _, _, _, _ => none
 | k + 1, x0, x1, x2, x9, x10, x445000, x445001, x445002 => remontoirlaw03_RingRows.j5 k x0 x1 x2 x9 x10 x445000 x445001 x445002
def remontoirlaw03_RingRows.j6 : Nat → Bool → Option (Bool)
 | 0, _ => none
 | k + 1, x6 => some x6
end
def remontoirlaw03_RingRows.f (k : Nat) (a0 : Int) (l1 : List Int) (l2 : List Bool) : Option (Bool) := (ring_New.f a0).bind fun bt415 => (if bt415.2.2.2 = 0 then (remontoirlaw03_RingRows.l0 k a0 l1 l2 ([] : List Int) 0 bt415.1 bt415.2.1 bt415.2.2.1) else (if (bt415.1.length : Int) = 0 then ((remontoirlaw03_knows.f k).bind fun t422 => (some t422)) else (some false)))
theorem remontoirlaw03_RingRows.mono_l : ∀ k, (∀ y0 y1 y2 y3 y4 y5 y6 y7, LeO (remontoirlaw03_RingRows.l0 k y0 y1 y2 y3 y4 y5 y6 y7) (remontoirlaw03_RingRows.l0 (k + 1) y0 y1 y2 y3 y4 y5 y6 y7)) ∧ (∀ y0 y1 y2 y3 y4 y5 y6 y7 y8, LeO (remontoirlaw03_RingRows.j1 k y0 y1 y2 y3 y4 y5 y6 y7 y8) (remontoirlaw03_RingRows.j1 (k + 1) y0 y1 y2 y3 y4 y5 y6 y7 y8)) ∧ (∀ y0 y1 y2 y3 y4 y5 y6 y7, LeO (remontoirlaw03_RingRows.j5 k y0 y1 y2 y3 y4 y5 y6 y7) (remontoirlaw03_RingRows.j5 (k + 1) y0 y1 y2 y3 y4 y5 y6 y7)) ∧ (∀ y0 y1 y2 y3 y4 y5 y6 y7 y8, LeO (remontoirlaw03_RingRows.j2 k y0 y1 y2 y3 y4 y5 y6 y7 y8) (remontoirlaw03_RingRows.j2 (k + 1) y0 y1 y2 y3 y4 y5 y6 y7 y8)) ∧ (∀ y0 y1 y2 y3 y4 y5 y6 y7, LeO (remontoirlaw03_RingRows.j3 k y0 y1 y2 y3 y4 y5 y6 y7) (remontoirlaw03_RingRows.j3 (k + 1) y0 y1 y2 y3 y4 y5 y6 y7)) ∧ (∀ y0 y1 y2 y3 y4 y5 y6 y7, LeO (remontoirlaw03_RingRows.j4 k y0 y1 y2 y3 y4 y5 y6 y7) (remontoirlaw03_RingRows.j4 (k + 1) y0 y1 y2 y3 y4 y5 y6 y7)) ∧ (∀ y0, LeO (remontoirlaw03_RingRows.j6 k y0) (remontoirlaw03_RingRows.j6 (k + 1) y0))
 | 0 => ⟨fun _ _ _ _ _ _ _ _ r h => by simp [remontoirlaw03_RingRows.l0] at h, fun _ _ _ _ _ _ _ _ _ r h => by simp [remontoirlaw03_RingRows.j1] at h, fun _ _ _ _ _ _ _ _ r h => by simp [remontoirlaw03_RingRows.j5] at h, fun _ _ _ _ _ _ _ _ _ r h => by simp [remontoirlaw03_RingRows.j2] at h, fun _ _ _ _ _ _ _ _ r h => by simp [remontoirlaw03_RingRows.j3] at h, fun _ _ _ _ _ _ _ _ r h => by simp [remontoirlaw03_RingRows.j4] at h, fun _ r h => by simp [remontoirlaw03_RingRows.j6] at h⟩
 | k + 1 => by
  obtain ⟨ih0, ih1, ih2, ih3, ih4, ih5, ih6⟩ := remontoirlaw03_RingRows.mono_l k
  refine ⟨?_, ?_, ?_, ?_, ?_, ?_, ?_⟩
  ·
   intro y0 y1 y2 y3 y4 y5 y6 y7
   unfold remontoirlaw03_RingRows.l0
   repeat' first
   | (with_reducible exact ih0 _ _ _ _ _ _ _ _)
   | (with_reducible exact ih1 _ _ _ _ _ _ _ _ _)
   | (with_reducible exact ih2 _ _ _ _ _ _ _ _)
   | (with_reducible exact ih3 _ _ _ _ _ _ _ _ _)
   | (with_reducible exact ih4 _ _ _ _ _ _ _ _)
   | (with_reducible exact ih5 _ _ _ _ _ _ _ _)
   | (with_reducible exact ih6 _)
   | (with_reducible exact remontoirlaw03_knows.mono _)
   | (with_reducible exact remontoirref03_SameList.mono _ _ _)
   | (with_reducible exact ring_List.mono _ _ _ _)
   | (with_reducible exact ring_Pop.mono _ _ _ _)
   | (with_reducible exact ring_Push.mono _ _ _ _ _)
   | (with_reducible exact ring_Right.mono _ _ _ _)
   | (with_reducible exact LeO.refl _)
   | (with_reducible exact LeO.none _)
   | (with_reducible refine LeO.ite ?_ ?_)
   | (with_reducible refine LeO.bind ?_ (fun _ => ?_))
   | exact ih0 _ _ _ _ _ _ _ _
   | exact ih1 _ _ _ _ _ _ _ _ _
   | exact ih2 _ _ _ _ _ _ _ _
   | exact ih3 _ _ _ _ _ _ _ _ _
   | exact ih4 _ _ _ _ _ _ _ _
   | exact ih5 _ _ _ _ _ _ _ _
   | exact ih6 _
   | exact remontoirlaw03_knows.mono _
   | exact remontoirref03_SameList.mono _ _ _
   | exact ring_List.mono _ _ _ _
   | exact ring_Pop.mono _ _ _ _
   | exact ring_Push.mono _ _ _ _ _
   | exact ring_Right.mono _ _ _ _
   | exact LeO.none _
   | refine LeO.ite ?_ ?_
   | refine LeO.bind ?_ (fun _ => ?_)
  ·
   intro y0 y1 y2 y3 y4 y5 y6 y7 y8
   unfold remontoirlaw03_RingRows.j1
   repeat' first
   | (with_reducible exact ih0 _ _ _ _ _ _ _ _)
   | (with_reducible exact ih1 _ _ _ _ _ _ _ _ _)
   | (with_reducible exact ih2 _ _ _ _ _ _ _ _)
   | (with_reducible exact ih3 _ _ _ _ _ _ _ _ _)
   | (with_reducible exact ih4 _ _ _ _ _ _ _ _)
   | (with_reducible exact ih5 _ _ _ _ _ _ _ _)
   | (with_reducible exact ih6 _)
   | (with_reducible exact remontoirlaw03_knows.mono _)
   | (with_reducible exact remontoirref03_SameList.mono _ _ _)
   | (with_reducible exact ring_List.mono _ _ _ _)
   | (with_reducible exact ring_Pop.mono _ _ _ _)
   | (with_reducible exact ring_Push.mono _ _ _ _ _)
   | (with_reducible exact ring_Right.mono _ _ _ _)
   | (with_reducible exact LeO.refl _)
   | (with_reducible exact LeO.none _)
   | (with_reducible refine LeO.ite ?_ ?_)
   | (with_reducible refine LeO.bind ?_ (fun _ => ?_))
   | exact ih0 _ _ _ _ _ _ _ _
   | exact ih1 _ _ _ _ _ _ _ _ _
   | exact ih2 _ _ _ _ _ _ _ _
   | exact ih3 _ _ _ _ _ _ _ _ _
   | exact ih4 _ _ _ _ _ _ _ _
   | exact ih5 _ _ _ _ _ _ _ _
   | exact ih6 _
   | exact remontoirlaw03_knows.mono _
   | exact remontoirref03_SameList.mono _ _ _
   | exact ring_List.mono _ _ _ _
   | exact ring_Pop.mono _ _ _ _
   | exact ring_Push.mono _ _ _ _ _
   | exact ring_Right.mono _ _ _ _
   | exact LeO.none _
   | refine LeO.ite ?_ ?_
   | refine LeO.bind ?_ (fun _ => ?_)
  ·
   intro y0 y1 y2 y3 y4 y5 y6 y7
   unfold remontoirlaw03_RingRows.j5
   repeat' first
   | (with_reducible exact ih0 _ _ _ _ _ _ _ _)
   | (with_reducible exact ih1 _ _ _ _ _ _ _ _ _)
   | (with_reducible exact ih2 _ _ _ _ _ _ _ _)
   | (with_reducible exact ih3 _ _ _ _ _ _ _ _ _)
   | (with_reducible exact ih4 _ _ _ _ _ _ _ _)
   | (with_reducible exact ih5 _ _ _ _ _ _ _ _)
   | (with_reducible exact ih6 _)
   | (with_reducible exact remontoirlaw03_knows.mono _)
   | (with_reducible exact remontoirref03_SameList.mono _ _ _)
   | (with_reducible exact ring_List.mono _ _ _ _)
   | (with_reducible exact ring_Pop.mono _ _ _ _)
   | (with_reducible exact ring_Push.mono _ _ _ _ _)
   | (with_reducible exact ring_Right.mono _ _ _ _)
   | (with_reducible exact LeO.refl _)
   | (with_reducible exact LeO.none _)
   | (with_reducible refine LeO.ite ?_ ?_)
   | (with_reducible refine LeO.bind ?_ (fun _ => ?_))
   | exact ih0 _ _ _ _ _ _ _ _
   | exact ih1 _ _ _ _ _ _ _ _ _
   | exact ih2 _ _ _ _ _ _ _ _
   | exact ih3 _ _ _ _ _ _ _ _ _
   | exact ih4 _ _ _ _ _ _ _ _
   | exact ih5 _ _ _ _ _ _ _ _
   | exact ih6 _
   | exact remontoirlaw03_knows.mono _
   | exact remontoirref03_SameList.mono _ _ _
   | exact ring_List.mono _ _ _ _
   | exact ring_Pop.mono _ _ _ _
   | exact ring_Push.mono _ _ _ _ _
   | exact ring_Right.mono _ _ _ _
   | exact LeO.none _
   | refine LeO.ite ?_ ?_
   | refine LeO.bind ?_ (fun _ => ?_)
  ·
   intro y0 y1 y2 y3 y4 y5 y6 y7 y8
   unfold remontoirlaw03_RingRows.j2
   repeat' first
   | (with_reducible exact ih0 _ _ _ _ _ _ _ _)
   | (with_reducible exact ih1 _ _ _ _ _ _ _ _ _)
   | (with_reducible exact ih2 _ _ _ _ _ _ _ _)
   | (with_reducible exact ih3 _ _ _ _ _ _ _ _ _)
   | (with_reducible exact ih4 _ _ _ _ _ _ _ _)
   | (with_reducible exact ih5 _ _ _ _ _ _ _ _)
   | (with_reducible exact ih6 _)
   | (with_reducible exact remontoirlaw03_knows.mono _)
   | (with_reducible exact remontoirref03_SameList.mono _ _ _)
   | (with_reducible exact ring_List.mono _ _ _ _)
   | (with_reducible exact ring_Pop.mono _ _ _ _)
   | (with_reducible exact ring_Push.mono _ _ _ _ _)
   | (with_reducible exact ring_Right.mono _ _ _ _)
   | (with_reducible exact LeO.refl _)
   | (with_reducible exact LeO.none _)
   | (with_reducible refine LeO.ite ?_ ?_)
   | (with_reducible refine LeO.bind ?_ (fun _ => ?_))
   | exact ih0 _ _ _ _ _ _ _ _
   | exact ih1 _ _ _ _ _ _ _ _ _
   | exact ih2 _ _ _ _ _ _ _ _
   | exact ih3 _ _ _ _ _ _ _ _ _
   | exact ih4 _ _ _ _ _ _ _ _
   | exact ih5 _ _ _ _ _ _ _ _
   | exact ih6 _
   | exact remontoirlaw03_knows.mono _
   | exact remontoirref03_SameList.mono _ _ _
   | exact ring_List.mono _ _ _ _
   | exact ring_Pop.mono _ _ _ _
   | exact ring_Push.mono _ _ _ _ _
   | exact ring_Right.mono _ _ _ _
   | exact LeO.none _
   | refine LeO.ite ?_ ?_
   | refine LeO.bind ?_ (fun _ => ?_)
  ·
   intro y0 y1 y2 y3 y4 y5 y6 y7
   unfold remontoirlaw03_RingRows.j3
   repeat' first
   | (with_reducible exact ih0 _ _ _ _ _ _ _ _)
   | (with_reducible exact ih1 _ _ _ _ _ _ _ _ _)
   | (with_reducible exact ih2 _ _ _ _ _ _ _ _)
   | (with_reducible exact ih3 _ _ _ _ _ _ _ _ _)
   | (with_reducible exact ih4 _ _ _ _ _ _ _ _)
   | (with_reducible exact ih5 _ _ _ _ _ _ _ _)
   | (with_reducible exact ih6 _)
   | (with_reducible exact remontoirlaw03_knows.mono _)
   | (with_reducible exact remontoirref03_SameList.mono _ _ _)
   | (with_reducible exact ring_List.mono _ _ _ _)
   | (with_reducible exact ring_Pop.mono _ _ _ _)
   | (with_reducible exact ring_Push.mono _ _ _ _ _)
   | (with_reducible exact ring_Right.mono _ _ _ _)
   | (with_reducible exact LeO.refl _)
   | (with_reducible exact LeO.none _)
   | (with_reducible refine LeO.ite ?_ ?_)
   | (with_reducible refine LeO.bind ?_ (fun _ => ?_))
   | exact ih0 _ _ _ _ _ _ _ _
   | exact ih1 _ _ _ _ _ _ _ _ _
   | exact ih2 _ _ _ _ _ _ _ _
   | exact ih3 _ _ _ _ _ _ _ _ _
   | exact ih4 _ _ _ _ _ _ _ _
   | exact ih5 _ _ _ _ _ _ _ _
   | exact ih6 _
   | exact remontoirlaw03_knows.mono _
   | exact remontoirref03_SameList.mono _ _ _
   | exact ring_List.mono _ _ _ _
   | exact ring_Pop.mono _ _ _ _
   | exact ring_Push.mono _ _ _ _ _
   | exact ring_Right.mono _ _ _ _
   | exact LeO.none _
   | refine LeO.ite ?_ ?_
   | refine LeO.bind ?_ (fun _ => ?_)
  ·
   intro y0 y1 y2 y3 y4 y5 y6 y7
   unfold remontoirlaw03_RingRows.j4
   repeat' first
   | (with_reducible exact ih0 _ _ _ _ _ _ _ _)
   | (with_reducible exact ih1 _ _ _ _ _ _ _ _ _)
   | (with_reducible exact ih2 _ _ _ _ _ _ _ _)
   | (with_reducible exact ih3 _ _ _ _ _ _ _ _ _)
   | (with_reducible exact ih4 _ _ _ _ _ _ _ _)
   | (with_reducible exact ih5 _ _ _ _ _ _ _ _)
   | (with_reducible exact ih6 _)
   | (with_reducible exact remontoirlaw03_knows.mono _)
   | (with_reducible exact remontoirref03_SameList.mono _ _ _)
   | (with_reducible exact ring_List.mono _ _ _ _)
   | (with_reducible exact ring_Pop.mono _ _ _ _)
   | (with_reducible exact ring_Push.mono _ _ _ _ _)
   | (with_reducible exact ring_Right.mono _ _ _ _)
   | (with_reducible exact LeO.refl _)
   | (with_reducible exact LeO.none _)
   | (with_reducible refine LeO.ite ?_ ?_)
   | (with_reducible refine LeO.bind ?_ (fun _ => ?_))
   | exact ih0 _ _ _ _ _ _ _ _
   | exact ih1 _ _ _ _ _ _ _ _ _
   | exact ih2 _ _ _ _ _ _ _ _
   | exact ih3 _ _ _ _ _ _ _ _ _
   | exact ih4 _ _ _ _ _ _ _ _
   | exact ih5 _ _ _ _ _ _ _ _
   | exact ih6 _
   | exact remontoirlaw03_knows.mono _
   | exact remontoirref03_SameList.mono _ _ _
   | exact ring_List.mono _ _ _ _
   | exact ring_Pop.mono _ _ _ _
   | exact ring_Push.mono _ _ _ _ _
   | exact ring_Right.mono _ _ _ _
   | exact LeO.none _
   | refine LeO.ite ?_ ?_
   | refine LeO.bind ?_ (fun _ => ?_)
  ·
   intro y0
   unfold remontoirlaw03_RingRows.j6
   repeat' first
   | (with_reducible exact ih0 _ _ _ _ _ _ _ _)
   | (with_reducible exact ih1 _ _ _ _ _ _ _ _ _)
   | (with_reducible exact ih2 _ _ _ _ _ _ _ _)
   | (with_reducible exact ih3 _ _ _ _ _ _ _ _ _)
   | (with_reducible exact ih4 _ _ _ _ _ _ _ _)
   | (with_reducible exact ih5 _ _ _ _ _ _ _ _)
   | (with_reducible exact ih6 _)
   | (with_reducible exact remontoirlaw03_knows.mono _)
   | (with_reducible exact remontoirref03_SameList.mono _ _ _)
   | (with_reducible exact ring_List.mono _ _ _ _)
   | (with_reducible exact ring_Pop.mono _ _ _ _)
   | (with_reducible exact ring_Push.mono _ _ _ _ _)
   | (with_reducible exact ring_Right.mono _ _ _ _)
   | (with_reducible exact LeO.refl _)
   | (with_reducible exact LeO.none _)
   | (with_reducible refine LeO.ite ?_ ?_)
   | (with_reducible refine LeO.bind ?_ (fun _ => ?_))
   | exact ih0 _ _ _ _ _ _ _ _
   | exact ih1 _ _ _ _ _ _ _ _ _
   | exact ih2 _ _ _ _ _ _ _ _
   | exact ih3 _ _ _ _ _ _ _ _ _
   | exact ih4 _ _ _ _ _ _ _ _
   | exact ih5 _ _ _ _ _ _ _ _
   | exact ih6 _
   | exact remontoirlaw03_knows.mono _
   | exact remontoirref03_SameList.mono _ _ _
   | exact ring_List.mono _ _ _ _
   | exact ring_Pop.mono _ _ _ _
   | exact ring_Push.mono _ _ _ _ _
   | exact ring_Right.mono _ _ _ _
   | exact LeO.none _
   | refine LeO.ite ?_ ?_
   | refine LeO.bind ?_ (fun _ => ?_)
theorem remontoirlaw03_RingRows.mono : ∀ a0 a1 a2 k, LeO (remontoirlaw03_RingRows.f k a0 a1 a2) (remontoirlaw03_RingRows.f (k + 1) a0 a1 a2) := by
 intro a0 a1 a2 k
 obtain ⟨ih0, ih1, ih2, ih3, ih4, ih5, ih6⟩ := remontoirlaw03_RingRows.mono_l k
 unfold remontoirlaw03_RingRows.f
 repeat' first
   | (with_reducible exact ih0 _ _ _ _ _ _ _ _)
   | (with_reducible exact ih1 _ _ _ _ _ _ _ _ _)
   | (with_reducible exact ih2 _ _ _ _ _ _ _ _)
   | (with_reducible exact ih3 _ _ _ _ _ _ _ _ _)
   | (with_reducible exact ih4 _ _ _ _ _ _ _ _)
   | (with_reducible exact ih5 _ _ _ _ _ _ _ _)
   | (with_reducible exact ih6 _)
   | (with_reducible exact remontoirlaw03_knows.mono _)
   | (with_reducible exact remontoirref03_SameList.mono _ _ _)
   | (with_reducible exact ring_List.mono _ _ _ _)
   | (with_reducible exact ring_Pop.mono _ _ _ _)
   | (with_reducible exact ring_Push.mono _ _ _ _ _)
   | (with_reducible exact ring_Right.mono _ _ _ _)
   | (with_reducible exact LeO.refl _)
   | (with_reducible exact LeO.none _)
   | (with_reducible refine LeO.ite ?_ ?_)
   | (with_reducible refine LeO.bind ?_ (fun _ => ?_))
   | exact ih0 _ _ _ _ _ _ _ _
   | exact ih1 _ _ _ _ _ _ _ _ _
   | exact ih2 _ _ _ _ _ _ _ _
   | exact ih3 _ _ _ _ _ _ _ _ _
   | exact ih4 _ _ _ _ _ _ _ _
   | exact ih5 _ _ _ _ _ _ _ _
   | exact ih6 _
   | exact remontoirlaw03_knows.mono _
   | exact remontoirref03_SameList.mono _ _ _
   | exact ring_List.mono _ _ _ _
   | exact ring_Pop.mono _ _ _ _
   | exact ring_Push.mono _ _ _ _ _
   | exact ring_Right.mono _ _ _ _
   | exact LeO.none _
   | refine LeO.ite ?_ ?_
   | refine LeO.bind ?_ (fun _ => ?_)
def remontoirlaw03_RingRows.T15 : Bool × List (List Nat × List Nat) := (true, [([], []), ([], []), ([], []), ([1, 2], [1, 2]), ([3], [3]), ([0, 4], [0, 4]), ([5], [5]), ([6], [6]), ([6], [6]), ([], []), ([9, 7, 5, 0, 1, 2, 3, 4, 5, 6, 7, 9], [7, 9]), ([8, 10, 0, 1, 2, 3, 4, 5, 6, 7, 8, 9, 10], [8])])
def remontoirlaw03_RingRows.B15 : List Nat := [0, 0, 0, 6, 14, 31, 63, 127, 127, 0, 767, 2047]
theorem remontoirlaw03_RingRows.tab15 : rtab .any (opsOf Try.f7 15) = remontoirlaw03_RingRows.T15 := by kernel_rfl
theorem remontoirlaw03_RingRows.bits15 : waitsOk remontoirlaw03_RingRows.T15.2 remontoirlaw03_RingRows.B15 = true := by kernel_rfl
def remontoirlaw03_RingRows.T19 : Bool × List (List Nat × List Nat) := (true, [([], []), ([], []), ([0, 1], [0, 1]), ([], []), ([], []), ([3, 4], [3, 4]), ([5], [5]), ([6], [6]), ([2, 7, 2], [2, 7]), ([8, 8, 0, 1, 2, 3, 4, 5, 6, 7, 8], [1, 8])])
def remontoirlaw03_RingRows.B19 : List Nat := [0, 0, 3, 0, 0, 24, 56, 120, 255, 511]
theorem remontoirlaw03_RingRows.tab19 : rtab .any (opsOf Try.f7 19) = remontoirlaw03_RingRows.T19 := by kernel_rfl
theorem remontoirlaw03_RingRows.bits19 : waitsOk remontoirlaw03_RingRows.T19.2 remontoirlaw03_RingRows.B19 = true := by kernel_rfl
set_option maxHeartbeats 8000000 in
set_option maxRecDepth 100000 in
theorem remontoirlaw03_RingRows.calls (k : Nat) (a0 : Int) (A1 : Option Addr) (c1 : Nat) (l1 : List Int) (A2 : Option Addr) (c2 : Nat) (l2 : List Bool) (r : Bool) (w : World) (hr1 : Kd.C (Kd.int .i64) w A1 l1.length l1) (hc1 : l1.length ≤ c1) (hr2 : Kd.C Kd.bool w A2 l2.length l2) (hc2 : l2.length ≤ c2) (h : remontoirlaw03_RingRows.f k a0 l1 l2 = some r) :
  Calls Try.prog 7 #[.int .i64 a0, .slice A1 l1.length c1, .slice A2 l2.length c2] w fun e w' => e = .returned (.bool r) ∧ Below w.heap.size w w' := by
 have hu24 := Try.underlying24
 have HR1 := Aside0.mk hr1
 have HC1 := Aside0.mk hc1
 clear hr1 hc1
 have HR2 := Aside0.mk hr2
 have HC2 := Aside0.mk hc2
 clear hr2 hc2
 have HB := Aside0.mk (Below.refl w.heap.size w)
 have H : ((ring_New.f a0).bind fun bt415 => (if bt415.2.2.2 = 0 then (remontoirlaw03_RingRows.l0 k a0 l1 l2 ([] : List Int) 0 bt415.1 bt415.2.1 bt415.2.2.1) else (if (bt415.1.length : Int) = 0 then ((remontoirlaw03_knows.f k).bind fun t422 => (some t422)) else (some false)))) = some r := h
 clear h
 replace H := Option.bind_eq_some_iff.mp H
 obtain ⟨⟨t415, t418, t419, t420⟩, A40, H⟩ := H
 replace H : (if t420 = 0 then (remontoirlaw03_RingRows.l0 k a0 l1 l2 ([] : List Int) 0 t415 t418 t419) else (if (t415.length : Int) = 0 then ((remontoirlaw03_knows.f k).bind fun t422 => (some t422)) else (some false))) = some r := H
 have A4 := Aside0.mk A40
 clear A40
 by_cases c5 : t420 = 0
 ·
  rw [if_pos c5] at H
  have c5b0 : (t420 == 0) = true := beq_iff_eq.mpr c5
  have c5b1 : (t420 != 0) = false := bne_eq_false_iff_eq.mpr c5
  clear c5
  have H' := Aside0.mk H
  clear H
  go_enter Try.func7, Try.ntmps7
  go_wp2_with (first | ((with_reducible refine gate_callee (f := 13) rfl ?_); refine goesL_ (some 18) rfl rfl Try.func13 (by kernel_rfl) rfl #[.int .i64 a0] rfl (by (try simp only [List.map_toArray, List.map_cons, List.map_nil]); first | done | rfl | (simp only [List.length_drop, List.length_take]; rfl)) ?_; (with_reducible refine (ring_New.calls a0 t415 t418 t419 t420 _ A4.out).mono ?_); rintro e w6 ⟨v416, rfl, ho0, hb⟩; refine ⟨_, rfl, ?_⟩; have n0_ := Aside0.mk (Kd.R_lower ho0 (below_size (by repeat (first | (with_reducible first | exact HB.out | apply below_alloc | apply pw_below_drewN | apply below_drew1) | exact HB.out)))); have n1_ := Aside0.mk (below_step (by repeat (first | (with_reducible first | exact HB.out | apply below_alloc | apply pw_below_drewN | apply below_drew1) | exact HB.out)) hb); clear HB; have HO417 := n0_; have HB := n1_; clear n0_ n1_; (try clear hb); (try clear hb2); (try clear hk); (try clear hi); (try clear ho0)) | ((with_reducible refine gate_dst (N := 7) rfl ?_); (try (refine gate_guard (by rfl) ?_; dsimp only)); refine box_event ?hg (N := 7) ?hd (cs := #[.slice none 0 0, .int .i64 0, .int .i64 0]) (t := 24) ?hr ?_; (case hd => rfl); (case hg => rfl); (case hr => first | (go_simp; done) | (go_simp; rfl)); intro gb421 hg w7 hbox hb; have n0_ := Aside0.mk (Kd.R_below (by (with_reducible repeat (first | apply Kd.R_alloc | apply Kd.R_drewN | apply Kd.R_drew)); exact HO417.out) hb); have n1_ := Aside0.mk (below_step (by repeat (first | (with_reducible first | exact HB.out | apply below_alloc | apply pw_below_drewN | apply below_drew1) | exact HB.out)) hb); have n2_ := Aside0.mk (hbox); have n3_ := Aside0.mk ((by rw [hg]; exact (below_size (by repeat (first | (with_reducible first | exact HB.out | apply below_alloc | apply pw_below_drewN | apply below_drew1) | exact HB.out))) : w.heap.size ≤ gb421)); have n4_ := Aside0.mk ((by rw [hg]; exact (below_size (by repeat (first | (with_reducible first | exact HB.out | apply below_alloc | apply pw_below_drewN | apply below_drew1) | exact HB.out))) : w.heap.size ≤ gb421)); clear HO417; clear HB; have HO417 := n0_; have HB := n1_; have BK421 := n2_; have GW421 := n3_; have GE421 := n4_; clear n0_ n1_ n2_ n3_ n4_; clear hb hbox hg; obtain ⟨Ao8, co8, eo8⟩ := Kd.R_slice HO417.out; subst eo8; have hcz9_0 : w7.cell? ⟨gb421, 0, none⟩ = some (.slice none 0 0) := (blk_cell BK421.out 0).trans rfl; have hcz9_1 : w7.cell? ⟨gb421, 1, none⟩ = some (.int .i64 0) := (blk_cell BK421.out 1).trans rfl; have hcz9_2 : w7.cell? ⟨gb421, 2, none⟩ = some (.int .i64 0) := (blk_cell BK421.out 2).trans rfl; have hfz9_0 := blk_frozen BK421.out 0; have hfz9_1 := blk_frozen BK421.out 1; have hfz9_2 := blk_frozen BK421.out 2))
  go_loopg [9, 10] k (fun kq v9 v10 w' => ∃ (x9_1 : List Int) (x10_1 : Int) (x422000_1 : List Int) (x422001_1 : Int) (x422002_1 : Int) (u422000 : Value), v10 = .int .i64 x10_1 ∧ Aside0 (remontoirlaw03_RingRows.l0 kq a0 l1 l2 x9_1 x10_1 x422000_1 x422001_1 x422002_1 = some r) ∧ Aside0 (kq ≤ k) ∧ Aside0 (Kd.Q (Kd.int .i64) 3 w' w.heap.size (fun _ => True) v9 x9_1) ∧ Aside0 (Kd.V (Kd.int .i64) 3 w' w.heap.size (fun k_ => some k_ ≠ (v9 : Value).ownBlock ∧ k_ ≠ gb421) u422000 x422000_1) ∧ Aside0 (w'.heap[gb421]? = some (.cells #[u422000, .int .i64 x422001_1, .int .i64 x422002_1] 24 (0, 0))) ∧ Aside0 (Below w.heap.size w w'))
  case atStart => exact ⟨(([] : List Int)), (0), (t415), (t418), (t419), (.slice Ao8 t415.length co8), (by first | rfl | (simp; done) | (simp [*]; done)), H', ⟨Nat.le_refl _⟩, ⟨Kd.Q_of_R (by first | exact Kd.R_nil _ _ _ _ _ | exact Kd.N_nil _ _ _ _ _ | exact Kd.V_nil _ _ _ _ _ | exact Kd.Q_nil _ _ _ _ _ | exact Kd.S_nil _ _ _ _ _)⟩, ⟨Kd.R_V (by (with_reducible repeat (first | apply Kd.R_alloc | apply Kd.R_drewN | apply Kd.R_drew)); exact Kd.R_mono (Kd.R_far (p := ⟨gb421, 2, none⟩) (Kd.R_far (p := ⟨gb421, 1, none⟩) (Kd.R_far (p := ⟨gb421, 0, none⟩) (Kd.R_types (Kd.R_types HO417.out BK421.out (by decide)) BK421.out (by decide)) (fun _ hk => hk.2) (.slice Ao8 t415.length co8)) (fun _ hk => hk.2) (.int .i64 t418)) (fun _ hk => hk.2) (.int .i64 t419)) (fun _ hk => ⟨(by simp [Value.ownBlock]), hk.1.2⟩))⟩, ⟨by (with_reducible repeat (first | refine blk_drewN ?_ _ | refine blk_drew ?_ | refine blk_alloc ?_ _)); refine blk_put (cs := #[.slice Ao8 t415.length co8, .int .i64 t418, .int .i64 0]) ?_ 2 _ rfl; (with_reducible repeat (first | refine blk_drewN ?_ _ | refine blk_drew ?_ | refine blk_alloc ?_ _)); refine blk_put (cs := #[.slice Ao8 t415.length co8, .int .i64 0, .int .i64 0]) ?_ 1 _ rfl; (with_reducible repeat (first | refine blk_drewN ?_ _ | refine blk_drew ?_ | refine blk_alloc ?_ _)); refine blk_put (cs := #[.slice none 0 0, .int .i64 0, .int .i64 0]) ?_ 0 _ rfl; (with_reducible repeat (first | refine blk_drewN ?_ _ | refine blk_drew ?_ | refine blk_alloc ?_ _)); exact BK421.out⟩, ⟨by repeat (first | (with_reducible first | exact HB.out | apply below_alloc | apply pw_below_drewN | apply below_drew1 | refine below_set ?_ GE421.out) | exact HB.out)⟩⟩
  case round =>
   clear H'
   try clear c1
   try clear c2
   try clear p2
   try clear c5
   try clear c5b0
   try clear c5b1
   try clear c7
   try clear hcz9_0
   try clear hcz9_1
   try clear hcz9_2
   try clear hfz9_0
   try clear hfz9_1
   try clear hfz9_2
   obtain ⟨x9_1, x10_1, x422000_1, x422001_1, x422002_1, u422000, rfl, HA, HK1, HO_9, HO_422000, BK421, HB⟩ := hrel
   cases gk with
   | zero => exact absurd HA.out (by simp [remontoirlaw03_RingRows.l0])
   | succ k1 =>
    have H := HA.out
    clear HA
    simp only [remontoirlaw03_RingRows.l0] at H
    have HC10 := Aside0.mk H
    clear H
    go_upto_region 6 with (fail)
    go_cut [43] (fun v43 wc => ∃ (kq : Nat) (x43_9 : Bool), v43 = .bool x43_9 ∧ Aside0 (remontoirlaw03_RingRows.j1 kq a0 l1 l2 x9_1 x10_1 x43_9 x422000_1 x422001_1 x422002_1 = some r) ∧ Aside0 (kq ≤ k1) ∧ Aside0 (Kd.Q (Kd.int .i64) 3 wc w.heap.size (fun _ => True) u9 x9_1) ∧ Aside0 (Kd.V (Kd.int .i64) 3 wc w.heap.size (fun k_ => some k_ ≠ (u9 : Value).ownBlock ∧ k_ ≠ gb421) u422000 x422000_1) ∧ Aside0 (wc.heap[gb421]? = some (.cells #[u422000, .int .i64 x422001_1, .int .i64 x422002_1] 24 (0, 0))) ∧ Aside0 (Below w.heap.size w wc))
    case first =>
     have H := HC10.out
     clear HC10
     by_cases c11 : x10_1 < (l1.length : Int)
     ·
      rw [if_pos c11] at H
      have c11b0 : decide (x10_1 < (l1.length : Int)) = true := decide_eq_true c11
      clear c11
      (first | rw [c11b0] | (simp only [i64_w, i32_w]; rw [c11b0]) | rw [c11b1] | (simp only [i64_w, i32_w]; rw [c11b1]) | skip)
      by_cases c12 : x10_1 < (l2.length : Int)
      ·
       rw [if_pos c12] at H
       have c12b0 : decide (x10_1 < (l2.length : Int)) = true := decide_eq_true c12
       clear c12
       have H' := Aside0.mk H
       clear H
       go_wp2
       go_meet
       case rel => exact ⟨_, (decide (x10_1 < 60)), (by first | rfl | (simp; done) | (simp [*]; done)), H', ⟨by have := HK1.out; first | omega | exact Nat.le_refl _⟩, ⟨by (with_reducible repeat (first | apply Kd.Q_alloc | apply Kd.Q_drewN | apply Kd.Q_drew)); exact HO_9.out⟩, ⟨by (with_reducible repeat (first | apply Kd.V_alloc | apply Kd.V_drewN | apply Kd.V_drew)); exact HO_422000.out⟩, ⟨by (with_reducible repeat (first | refine blk_drewN ?_ _ | refine blk_drew ?_ | refine blk_alloc ?_ _)); exact BK421.out⟩, ⟨by repeat (first | (with_reducible first | exact HB.out | apply below_alloc | apply pw_below_drewN | apply below_drew1 | refine below_set ?_ GE421.out) | exact HB.out)⟩⟩
      ·
       rw [if_neg c12] at H
       have c12b0 : decide (x10_1 < (l2.length : Int)) = false := decide_eq_false c12
       clear c12
       have H' := Aside0.mk H
       clear H
       go_wp2
       go_meet
       case rel => exact ⟨_, (false), (by first | rfl | (simp; done) | (simp [*]; done)), H', ⟨by have := HK1.out; first | omega | exact Nat.le_refl _⟩, ⟨by (with_reducible repeat (first | apply Kd.Q_alloc | apply Kd.Q_drewN | apply Kd.Q_drew)); exact HO_9.out⟩, ⟨by (with_reducible repeat (first | apply Kd.V_alloc | apply Kd.V_drewN | apply Kd.V_drew)); exact HO_422000.out⟩, ⟨by (with_reducible repeat (first | refine blk_drewN ?_ _ | refine blk_drew ?_ | refine blk_alloc ?_ _)); exact BK421.out⟩, ⟨by repeat (first | (with_reducible first | exact HB.out | apply below_alloc | apply pw_below_drewN | apply below_drew1 | refine below_set ?_ GE421.out) | exact HB.out)⟩⟩
     ·
      rw [if_neg c11] at H
      have c11b0 : decide (x10_1 < (l1.length : Int)) = false := decide_eq_false c11
      clear c11
      (first | rw [c11b0] | (simp only [i64_w, i32_w]; rw [c11b0]) | rw [c11b1] | (simp only [i64_w, i32_w]; rw [c11b1]) | skip)
      have H' := Aside0.mk H
      clear H
      go_wp2
      go_meet
      case rel => exact ⟨_, (false), (by first | rfl | (simp; done) | (simp [*]; done)), H', ⟨by have := HK1.out; first | omega | exact Nat.le_refl _⟩, ⟨by (with_reducible repeat (first | apply Kd.Q_alloc | apply Kd.Q_drewN | apply Kd.Q_drew)); exact HO_9.out⟩, ⟨by (with_reducible repeat (first | apply Kd.V_alloc | apply Kd.V_drewN | apply Kd.V_drew)); exact HO_422000.out⟩, ⟨by (with_reducible repeat (first | refine blk_drewN ?_ _ | refine blk_drew ?_ | refine blk_alloc ?_ _)); exact BK421.out⟩, ⟨by repeat (first | (with_reducible first | exact HB.out | apply below_alloc | apply pw_below_drewN | apply below_drew1 | refine below_set ?_ GE421.out) | exact HB.out)⟩⟩
    case rest =>
     clear HC10
     try clear c1
     try clear c2
     try clear p2
     try clear c5
     try clear c5b0
     try clear c5b1
     try clear c7
     try clear c11
     try clear c11b0
     try clear c12
     try clear c12b0
     try clear hcz9_0
     try clear hcz9_1
     try clear hcz9_2
     try clear hfz9_0
     try clear hfz9_1
     try clear hfz9_2
     try clear p2
     obtain ⟨kq, x43_9, rfl, HA, HJ9, HO_9, HO_422000, BK421, HB⟩ := hcut
     cases kq with
     | zero => exact absurd HA.out (by simp [remontoirlaw03_RingRows.j1])
     | succ kj9 =>
      have H := HA.out
      clear HA
      simp only [remontoirlaw03_RingRows.j1] at H
      by_cases c13 : x43_9 = true
      ·
       subst c13
       have H1 : (if 0 ≤ x10_1 then (if x10_1 < (l2.length : Int) then (if rdOf false l2 x10_1 = true then ((ring_Pop.f kj9 x422000_1 x422001_1 x422002_1).bind fun bt424 => (if (x9_1.length : Int) = 0 then (if bt424.2.2.2.2 = 4 then (if (x9_1.length : Int) > 0 then (if bt424.2.2.2.2 = 0 then (if 0 < (x9_1.length : Int) then (remontoirlaw03_RingRows.j2 kj9 a0 l1 l2 x9_1 x10_1 (bt424.1 != (rd x9_1 0)) bt424.2.1 bt424.2.2.1 bt424.2.2.2.1) else (none)) else (remontoirlaw03_RingRows.j2 kj9 a0 l1 l2 x9_1 x10_1 true bt424.2.1 bt424.2.2.1 bt424.2.2.2.1)) else (remontoirlaw03_RingRows.j2 kj9 a0 l1 l2 x9_1 x10_1 false bt424.2.1 bt424.2.2.1 bt424.2.2.2.1)) else (remontoirlaw03_RingRows.j2 kj9 a0 l1 l2 x9_1 x10_1 true bt424.2.1 bt424.2.2.1 bt424.2.2.2.1)) else (if (x9_1.length : Int) > 0 then (if bt424.2.2.2.2 = 0 then (if 0 < (x9_1.length : Int) then (remontoirlaw03_RingRows.j2 kj9 a0 l1 l2 x9_1 x10_1 (bt424.1 != (rd x9_1 0)) bt424.2.1 bt424.2.2.1 bt424.2.2.2.1) else (none)) else (remontoirlaw03_RingRows.j2 kj9 a0 l1 l2 x9_1 x10_1 true bt424.2.1 bt424.2.2.1 bt424.2.2.2.1)) else (remontoirlaw03_RingRows.j2 kj9 a0 l1 l2 x9_1 x10_1 false bt424.2.1 bt424.2.2.1 bt424.2.2.2.1)))) else (if x10_1 < (l1.length : Int) then ((ring_Push.f kj9 x422000_1 x422001_1 x422002_1 (rd l1 x10_1)).bind fun bt438 => (if ((bt438.2.2.2 == 0) != (decide ((x9_1.length : Int) < a0))) = true then (some false) else (if bt438.2.2.2 = 0 then ((some (([] : List Int) : List Int)).bind fun y445 => (if y445.length + x9_1.length < 17592186044416 then ((some (y445 ++ x9_1 : List Int)).bind fun y448 => ((some (([rd l1 x10_1] : List Int) : List Int)).bind fun y452 => (if y448.length + y452.length < 17592186044416 then (remontoirlaw03_RingRows.j4 kj9 a0 l1 l2 (y448 ++ y452) x10_1 bt438.1 bt438.2.1 bt438.2.2.1) else (none)))) else (none))) else (remontoirlaw03_RingRows.j4 kj9 a0 l1 l2 x9_1 x10_1 bt438.1 bt438.2.1 bt438.2.2.1)))) else (none))) else (none)) else (none)) = some r := by rw [if_pos rfl] at H; exact H
       clear H
       have H := H1
       clear H1
       have HC14 := Aside0.mk H
       clear H
       go_upto_block 1 with (fail)
       go_cut [9] (fun v9 wc => ∃ (kq : Nat) (x9_13 : List Int) (x422000_13 : List Int) (x422001_13 : Int) (x422002_13 : Int) (u422000 : Value), Aside0 (remontoirlaw03_RingRows.j5 kq a0 l1 l2 x9_13 x10_1 x422000_13 x422001_13 x422002_13 = some r) ∧ Aside0 (kq ≤ kj9) ∧ Aside0 (Kd.Q (Kd.int .i64) 3 wc w.heap.size (fun _ => True) v9 x9_13) ∧ Aside0 (Kd.V (Kd.int .i64) 3 wc w.heap.size (fun k_ => some k_ ≠ (v9 : Value).ownBlock ∧ k_ ≠ gb421) u422000 x422000_13) ∧ Aside0 (wc.heap[gb421]? = some (.cells #[u422000, .int .i64 x422001_13, .int .i64 x422002_13] 24 (0, 0))) ∧ Aside0 (Below w.heap.size w wc))
       case first =>
        have H := HC14.out
        clear HC14
        by_cases c15 : 0 ≤ x10_1
        ·
         rw [if_pos c15] at H
         have c15b0 : decide (0 ≤ x10_1) = true := decide_eq_true c15
         clear c15
         (first | rw [c15b0] | (simp only [i64_w, i32_w]; rw [c15b0]) | rw [c15b1] | (simp only [i64_w, i32_w]; rw [c15b1]) | skip)
         by_cases c16 : x10_1 < (l2.length : Int)
         ·
          rw [if_pos c16] at H
          have c16b0 : decide (x10_1 < (l2.length : Int)) = true := decide_eq_true c16
          clear c16
          obtain ⟨bq17, hbq17⟩ : ∃ b_ : Bool, b_ = (rdOf false l2 x10_1) := ⟨_, rfl⟩
          replace H : (if bq17 = true then ((ring_Pop.f kj9 x422000_1 x422001_1 x422002_1).bind fun bt424 => (if (x9_1.length : Int) = 0 then (if bt424.2.2.2.2 = 4 then (if (x9_1.length : Int) > 0 then (if bt424.2.2.2.2 = 0 then (if 0 < (x9_1.length : Int) then (remontoirlaw03_RingRows.j2 kj9 a0 l1 l2 x9_1 x10_1 (bt424.1 != (rd x9_1 0)) bt424.2.1 bt424.2.2.1 bt424.2.2.2.1) else (none)) else (remontoirlaw03_RingRows.j2 kj9 a0 l1 l2 x9_1 x10_1 true bt424.2.1 bt424.2.2.1 bt424.2.2.2.1)) else (remontoirlaw03_RingRows.j2 kj9 a0 l1 l2 x9_1 x10_1 false bt424.2.1 bt424.2.2.1 bt424.2.2.2.1)) else (remontoirlaw03_RingRows.j2 kj9 a0 l1 l2 x9_1 x10_1 true bt424.2.1 bt424.2.2.1 bt424.2.2.2.1)) else (if (x9_1.length : Int) > 0 then (if bt424.2.2.2.2 = 0 then (if 0 < (x9_1.length : Int) then (remontoirlaw03_RingRows.j2 kj9 a0 l1 l2 x9_1 x10_1 (bt424.1 != (rd x9_1 0)) bt424.2.1 bt424.2.2.1 bt424.2.2.2.1) else (none)) else (remontoirlaw03_RingRows.j2 kj9 a0 l1 l2 x9_1 x10_1 true bt424.2.1 bt424.2.2.1 bt424.2.2.2.1)) else (remontoirlaw03_RingRows.j2 kj9 a0 l1 l2 x9_1 x10_1 false bt424.2.1 bt424.2.2.1 bt424.2.2.2.1)))) else (if x10_1 < (l1.length : Int) then ((ring_Push.f kj9 x422000_1 x422001_1 x422002_1 (rd l1 x10_1)).bind fun bt438 => (if ((bt438.2.2.2 == 0) != (decide ((x9_1.length : Int) < a0))) = true then (some false) else (if bt438.2.2.2 = 0 then ((some (([] : List Int) : List Int)).bind fun y445 => (if y445.length + x9_1.length < 17592186044416 then ((some (y445 ++ x9_1 : List Int)).bind fun y448 => ((some (([rd l1 x10_1] : List Int) : List Int)).bind fun y452 => (if y448.length + y452.length < 17592186044416 then (remontoirlaw03_RingRows.j4 kj9 a0 l1 l2 (y448 ++ y452) x10_1 bt438.1 bt438.2.1 bt438.2.2.1) else (none)))) else (none))) else (remontoirlaw03_RingRows.j4 kj9 a0 l1 l2 x9_1 x10_1 bt438.1 bt438.2.1 bt438.2.2.1)))) else (none))) = some r := by rw [← hbq17] at H; exact H
          have Nbq17 := Aside0.mk hbq17
          clear hbq17
          by_cases c18 : bq17 = true
          ·
           subst c18
           have H1 : ((ring_Pop.f kj9 x422000_1 x422001_1 x422002_1).bind fun bt424 => (if (x9_1.length : Int) = 0 then (if bt424.2.2.2.2 = 4 then (if (x9_1.length : Int) > 0 then (if bt424.2.2.2.2 = 0 then (if 0 < (x9_1.length : Int) then (remontoirlaw03_RingRows.j2 kj9 a0 l1 l2 x9_1 x10_1 (bt424.1 != (rd x9_1 0)) bt424.2.1 bt424.2.2.1 bt424.2.2.2.1) else (none)) else (remontoirlaw03_RingRows.j2 kj9 a0 l1 l2 x9_1 x10_1 true bt424.2.1 bt424.2.2.1 bt424.2.2.2.1)) else (remontoirlaw03_RingRows.j2 kj9 a0 l1 l2 x9_1 x10_1 false bt424.2.1 bt424.2.2.1 bt424.2.2.2.1)) else (remontoirlaw03_RingRows.j2 kj9 a0 l1 l2 x9_1 x10_1 true bt424.2.1 bt424.2.2.1 bt424.2.2.2.1)) else (if (x9_1.length : Int) > 0 then (if bt424.2.2.2.2 = 0 then (if 0 < (x9_1.length : Int) then (remontoirlaw03_RingRows.j2 kj9 a0 l1 l2 x9_1 x10_1 (bt424.1 != (rd x9_1 0)) bt424.2.1 bt424.2.2.1 bt424.2.2.2.1) else (none)) else (remontoirlaw03_RingRows.j2 kj9 a0 l1 l2 x9_1 x10_1 true bt424.2.1 bt424.2.2.1 bt424.2.2.2.1)) else (remontoirlaw03_RingRows.j2 kj9 a0 l1 l2 x9_1 x10_1 false bt424.2.1 bt424.2.2.1 bt424.2.2.2.1)))) = some r := by rw [if_pos rfl] at H; exact H
           clear H
           have H := H1
           clear H1
           replace H := Option.bind_eq_some_iff.mp H
           obtain ⟨⟨t424, t425, t428, t429, t430⟩, A190, H⟩ := H
           replace H : (if (x9_1.length : Int) = 0 then (if t430 = 4 then (if (x9_1.length : Int) > 0 then (if t430 = 0 then (if 0 < (x9_1.length : Int) then (remontoirlaw03_RingRows.j2 kj9 a0 l1 l2 x9_1 x10_1 (t424 != (rd x9_1 0)) t425 t428 t429) else (none)) else (remontoirlaw03_RingRows.j2 kj9 a0 l1 l2 x9_1 x10_1 true t425 t428 t429)) else (remontoirlaw03_RingRows.j2 kj9 a0 l1 l2 x9_1 x10_1 false t425 t428 t429)) else (remontoirlaw03_RingRows.j2 kj9 a0 l1 l2 x9_1 x10_1 true t425 t428 t429)) else (if (x9_1.length : Int) > 0 then (if t430 = 0 then (if 0 < (x9_1.length : Int) then (remontoirlaw03_RingRows.j2 kj9 a0 l1 l2 x9_1 x10_1 (t424 != (rd x9_1 0)) t425 t428 t429) else (none)) else (remontoirlaw03_RingRows.j2 kj9 a0 l1 l2 x9_1 x10_1 true t425 t428 t429)) else (remontoirlaw03_RingRows.j2 kj9 a0 l1 l2 x9_1 x10_1 false t425 t428 t429))) = some r := H
           have A19 := Aside0.mk A190
           clear A190
           have HC20 := Aside0.mk H
           clear H
           have p423 : 0 ≤ (x10_1 : Int) := of_decide_eq_true (by first | (with_reducible assumption) | assumption)
           have q423 : x10_1 < (l2.length : Int) := of_decide_eq_true (by first | (with_reducible assumption) | assumption)
           obtain ⟨ad423, e423, hx423_0⟩ := Kd.at_bool HR2.out x10_1 p423 q423
           (try rw [← Nbq17.out] at hx423_0)
           cases e423
           replace hx423_0 := (HB.out.cell (World.block_lt_of_cell? w _ hx423_0)).trans hx423_0
           replace p423 := eq_true p423
           replace q423 := eq_true q423
           have hcz21_0 : wc.cell? ⟨gb421, 0, none⟩ = some (u422000) := (blk_cell BK421.out 0).trans rfl
           have hcz21_1 : wc.cell? ⟨gb421, 1, none⟩ = some (.int .i64 x422001_1) := (blk_cell BK421.out 1).trans rfl
           have hcz21_2 : wc.cell? ⟨gb421, 2, none⟩ = some (.int .i64 x422002_1) := (blk_cell BK421.out 2).trans rfl
           have hfz21_0 := blk_frozen BK421.out 0
           have hfz21_1 := blk_frozen BK421.out 1
           have hfz21_2 := blk_frozen BK421.out 2
           obtain ⟨Ao22, co22, eo22⟩ := Kd.V_slice HO_422000.out
           subst eo22
           go_upto_region 10 with (first | ((with_reducible refine gate_callee (f := 23) rfl ?_); refine goesL_ (some 52) rfl rfl Try.func23 (by kernel_rfl) rfl #[.agg #[.slice Ao22 x422000_1.length co22, .int .i64 x422001_1, .int .i64 x422002_1]] rfl (by (try simp only [List.map_toArray, List.map_cons, List.map_nil]); first | done | rfl | (simp only [List.length_drop, List.length_take]; rfl)) ?_; (with_reducible refine (ring_Pop.calls kj9 (fun k_ => (some k_ ≠ (u9 : Value).ownBlock ∧ k_ ≠ gb421)) _ _ x422000_1 x422001_1 x422002_1 t424 t425 t428 t429 t430 _ ?side1 A19.out).mono ?_); (case side1 => exact HO_422000.out); rintro e w23 ⟨v426, rfl, ho0, hb⟩; refine ⟨_, rfl, ?_⟩; have n0_ := Aside0.mk (Kd.Q_below (by (with_reducible repeat (first | apply Kd.Q_alloc | apply Kd.Q_drewN | apply Kd.Q_drew)); exact HO_9.out) hb); have n1_ := Aside0.mk (Kd.V_below (by (with_reducible repeat (first | apply Kd.V_alloc | apply Kd.V_drewN | apply Kd.V_drew)); exact HO_422000.out) hb); have n2_ := Aside0.mk (Kd.V_lower (Kd.V_mono (ok' := fun k_ => some k_ ≠ (u9 : Value).ownBlock ∧ k_ ≠ gb421) ho0 (fun k_ hk_ => ⟨Or.elim hk_ (fun hs_ => hs_.1) (fun hn_ => (Kd.fresh' (Kd.Q_lt (by (with_reducible repeat (first | apply Kd.Q_alloc | apply Kd.Q_drewN | apply Kd.Q_drew)); exact HO_9.out)) k_ hn_)), Or.elim hk_ (fun hs_ => hs_.2) (fun hn_ => (Kd.freshB (g := gb421) (o := .cells #[.slice Ao22 x422000_1.length co22, .int .i64 x422001_1, .int .i64 x422002_1] 24 (0, 0)) (by (with_reducible repeat (first | refine blk_drewN ?_ _ | refine blk_drew ?_ | refine blk_alloc ?_ _)); exact BK421.out) k_ hn_))⟩)) (below_size (by repeat (first | (with_reducible first | exact HB.out | apply below_alloc | apply pw_below_drewN | apply below_drew1 | refine below_set ?_ GE421.out) | exact HB.out)))); have n3_ := Aside0.mk (blk_below (g := gb421) (o := .cells #[.slice Ao22 x422000_1.length co22, .int .i64 x422001_1, .int .i64 x422002_1] 24 (0, 0)) (by (with_reducible repeat (first | refine blk_drewN ?_ _ | refine blk_drew ?_ | refine blk_alloc ?_ _)); exact BK421.out) hb); have n4_ := Aside0.mk (below_step (by repeat (first | (with_reducible first | exact HB.out | apply below_alloc | apply pw_below_drewN | apply below_drew1 | refine below_set ?_ GE421.out) | exact HB.out)) hb); clear HO_9; clear HO_422000; clear BK421; clear HB; have HO_9 := n0_; have HO_422000 := n1_; have HO427 := n2_; have BK421 := n3_; have HB := n4_; clear n0_ n1_ n2_ n3_ n4_; (try clear hb); (try clear hb2); (try clear hk); (try clear hi); (try clear ho0)) | ((with_reducible refine gate_dst (N := 12) rfl ?_); (try (refine gate_guard (by rfl) ?_; dsimp only)); refine box_event ?hg (N := 12) ?hd (cs := #[.slice none 0 0, .int .i64 0, .int .i64 0]) (t := 24) ?hr ?_; (case hd => rfl); (case hg => rfl); (case hr => first | (go_simp; done) | (go_simp; rfl)); intro gb431 hg w24 hbox hb; have n0_ := Aside0.mk (Kd.Q_below (by (with_reducible repeat (first | apply Kd.Q_alloc | apply Kd.Q_drewN | apply Kd.Q_drew)); exact HO_9.out) hb); have n1_ := Aside0.mk (Kd.V_below (Kd.V_elderB (by (with_reducible repeat (first | apply Kd.V_alloc | apply Kd.V_drewN | apply Kd.V_drew)); exact HO_422000.out) gb431 (Nat.le_of_eq hg.symm)) hb); have n2_ := Aside0.mk (Kd.V_below (Kd.V_elderB (by (with_reducible repeat (first | apply Kd.V_alloc | apply Kd.V_drewN | apply Kd.V_drew)); exact HO427.out) gb431 (Nat.le_of_eq hg.symm)) hb); have n3_ := Aside0.mk (blk_below (g := gb421) (o := .cells #[.slice Ao22 x422000_1.length co22, .int .i64 x422001_1, .int .i64 x422002_1] 24 (0, 0)) (by (with_reducible repeat (first | refine blk_drewN ?_ _ | refine blk_drew ?_ | refine blk_alloc ?_ _)); exact BK421.out) hb); have n4_ := Aside0.mk (below_step (by repeat (first | (with_reducible first | exact HB.out | apply below_alloc | apply pw_below_drewN | apply below_drew1 | refine below_set ?_ GE421.out) | exact HB.out)) hb); have n5_ := Aside0.mk (hbox); have n6_ := Aside0.mk ((by rw [hg]; exact (below_size (by repeat (first | (with_reducible first | exact HB.out | apply below_alloc | apply pw_below_drewN | apply below_drew1 | refine below_set ?_ GE421.out) | exact HB.out))) : w.heap.size ≤ gb431)); have n7_ := Aside0.mk ((by rw [hg]; exact (below_size (by repeat (first | (with_reducible first | exact HB.out | apply below_alloc | apply pw_below_drewN | apply below_drew1 | refine below_set ?_ GE421.out) | exact HB.out))) : w.heap.size ≤ gb431)); have n8_ := Aside0.mk ((by rw [hg]; exact Nat.ne_of_lt (blk_lt (g := gb421) (o := .cells #[.slice Ao22 x422000_1.length co22, .int .i64 x422001_1, .int .i64 x422002_1] 24 (0, 0)) (by (with_reducible repeat (first | refine blk_drewN ?_ _ | refine blk_drew ?_ | refine blk_alloc ?_ _)); exact BK421.out)) : gb421 ≠ gb431)); have n9_ := Aside0.mk ((by rw [hg]; exact Nat.ne_of_gt (blk_lt (g := gb421) (o := .cells #[.slice Ao22 x422000_1.length co22, .int .i64 x422001_1, .int .i64 x422002_1] 24 (0, 0)) (by (with_reducible repeat (first | refine blk_drewN ?_ _ | refine blk_drew ?_ | refine blk_alloc ?_ _)); exact BK421.out)) : gb431 ≠ gb421)); clear HO_9; clear HO_422000; clear HO427; clear BK421; clear HB; have HO_9 := n0_; have HO_422000 := n1_; have HO427 := n2_; have BK421 := n3_; have HB := n4_; have BK431 := n5_; have GW431 := n6_; have GE431 := n7_; have NB421_431 := n8_; have NB431_421 := n9_; clear n0_ n1_ n2_ n3_ n4_ n5_ n6_ n7_ n8_ n9_; clear hb hbox hg; obtain ⟨Ao25, co25, eo25⟩ := Kd.V_slice HO427.out; subst eo25; have hnb26 := NB431_421.out; have hnc26 := NB421_431.out; have hcz27_0 : w24.cell? ⟨gb431, 0, none⟩ = some (.slice none 0 0) := (blk_cell BK431.out 0).trans rfl; have hcz27_1 : w24.cell? ⟨gb431, 1, none⟩ = some (.int .i64 0) := (blk_cell BK431.out 1).trans rfl; have hcz27_2 : w24.cell? ⟨gb431, 2, none⟩ = some (.int .i64 0) := (blk_cell BK431.out 2).trans rfl; have hfz27_0 := blk_frozen BK431.out 0; have hfz27_1 := blk_frozen BK431.out 1; have hfz27_2 := blk_frozen BK431.out 2))
           (try simp only [Act.put, sbA, sbB, sbC])
           go_cut [78] (fun v78 wc => ∃ (kq : Nat) (x78_19 : Bool), v78 = .bool x78_19 ∧ Aside0 (remontoirlaw03_RingRows.j2 kq a0 l1 l2 x9_1 x10_1 x78_19 t425 t428 t429 = some r) ∧ Aside0 (kq ≤ kj9) ∧ Aside0 (Kd.Q (Kd.int .i64) 3 wc w.heap.size (fun _ => True) u9 x9_1) ∧ Aside0 (Kd.V (Kd.int .i64) 3 wc w.heap.size (fun k_ => some k_ ≠ (u9 : Value).ownBlock ∧ k_ ≠ gb421 ∧ k_ ≠ gb431) (.slice Ao22 x422000_1.length co22) x422000_1) ∧ Aside0 (Kd.V (Kd.int .i64) 3 wc w.heap.size (fun k_ => some k_ ≠ (u9 : Value).ownBlock ∧ k_ ≠ gb421 ∧ k_ ≠ gb431) (.slice Ao25 t425.length co25) t425) ∧ Aside0 (wc.heap[gb421]? = some (.cells #[(.slice Ao22 x422000_1.length co22), .int .i64 x422001_1, .int .i64 x422002_1] 24 (0, 0))) ∧ Aside0 (wc.heap[gb431]? = some (.cells #[(.slice Ao25 t425.length co25), .int .i64 t428, .int .i64 t429] 24 (0, 0))) ∧ Aside0 (Below w.heap.size w wc))
           case first =>
            have H := HC20.out
            clear HC20
            by_cases c28 : (x9_1.length : Int) = 0
            ·
             rw [if_pos c28] at H
             have c28b0 : ((x9_1.length : Int) == 0) = true := beq_iff_eq.mpr c28
             have c28b1 : ((x9_1.length : Int) != 0) = false := bne_eq_false_iff_eq.mpr c28
             clear c28
             (first | rw [c28b0] | (simp only [i64_w, i32_w]; rw [c28b0]) | rw [c28b1] | (simp only [i64_w, i32_w]; rw [c28b1]) | skip)
             by_cases c29 : t430 = 4
             ·
              rw [if_pos c29] at H
              have c29b0 : (t430 == 4) = true := beq_iff_eq.mpr c29
              have c29b1 : (t430 != 4) = false := bne_eq_false_iff_eq.mpr c29
              clear c29
              by_cases c30 : (x9_1.length : Int) > 0
              ·
               rw [if_pos c30] at H
               have c30b0 : decide (0 < (x9_1.length : Int)) = true := decide_eq_true c30
               have c30b1 : decide (0 < x9_1.length) = true := decide_eq_true (by omega)
               clear c30
               by_cases c31 : t430 = 0
               ·
                rw [if_pos c31] at H
                have c31b0 : (t430 == 0) = true := beq_iff_eq.mpr c31
                have c31b1 : (t430 != 0) = false := bne_eq_false_iff_eq.mpr c31
                clear c31
                by_cases c32 : 0 < (x9_1.length : Int)
                ·
                 rw [if_pos c32] at H
                 have c32b0 : decide (0 < (x9_1.length : Int)) = true := decide_eq_true c32
                 have c32b1 : decide (0 < x9_1.length) = true := decide_eq_true (by omega)
                 clear c32
                 have H' := Aside0.mk H
                 clear H
                 obtain ⟨Ao33, co33, eo33, _⟩ := Kd.Q_slice HO_9.out
                 subst eo33
                 have p432 : 0 ≤ (0 : Int) := (by omega)
                 have q432 : 0 < (x9_1.length : Int) := of_decide_eq_true (by first | (with_reducible assumption) | assumption)
                 obtain ⟨ad432, e432, hx432_0⟩ := Kd.at_int (Kd.Q_reads' HO_9.out).2.2 0 p432 q432
                 cases e432
                 have qi432 : (0 < x9_1.length) = True := eq_true (by omega)
                 (try rw [show ((0 : Int)).toNat = 0 from rfl] at hx432_0)
                 (try rw [Addr.add_zero'] at hx432_0)
                 have hn432_0 : ad432.block ≠ gb431 := Kd.own_blk (Kd.Q_ne HO_9.out BK431.out (by decide))
                 have hn432_1 : ad432.block ≠ gb431 := Kd.own_blk (Kd.Q_ne HO_9.out BK431.out (by decide))
                 have hn432_2 : ad432.block ≠ gb431 := Kd.own_blk (Kd.Q_ne HO_9.out BK431.out (by decide))
                 replace hx432_0 := (cell_far (p := ⟨gb431, 0, none⟩) (by first | (rw [add_block]; exact hn432_0) | (show (Addr.add _ _).block ≠ _; rw [add_block]; exact hn432_0) | exact hn432_0) (.slice Ao25 t425.length co25)).trans hx432_0
                 replace hx432_0 := (cell_far (p := ⟨gb431, 1, none⟩) (by first | (rw [add_block]; exact hn432_1) | (show (Addr.add _ _).block ≠ _; rw [add_block]; exact hn432_1) | exact hn432_1) (.int .i64 t428)).trans hx432_0
                 replace hx432_0 := (cell_far (p := ⟨gb431, 2, none⟩) (by first | (rw [add_block]; exact hn432_2) | (show (Addr.add _ _).block ≠ _; rw [add_block]; exact hn432_2) | exact hn432_2) (.int .i64 t429)).trans hx432_0
                 clear hn432_0
                 clear hn432_1
                 clear hn432_2
                 replace p432 := eq_true p432
                 replace q432 := eq_true q432
                 go_wp2
                 go_meet
                 case rel => exact ⟨_, ((t424 != (rd x9_1 0))), (by first | rfl | (simp; done) | (simp [*]; done)), H', ⟨by have := HK1.out; have := HJ9.out; first | omega | exact Nat.le_refl _⟩, ⟨by (with_reducible repeat (first | apply Kd.Q_alloc | apply Kd.Q_drewN | apply Kd.Q_drew)); exact Kd.Q_mono (Kd.Q_far (p := ⟨gb431, 2, none⟩) (Kd.Q_far (p := ⟨gb431, 1, none⟩) (Kd.Q_far (p := ⟨gb431, 0, none⟩) (Kd.Q_types HO_9.out BK431.out (by decide)) (fun _ hk => hk.2) (.slice Ao25 t425.length co25)) (fun _ hk => hk.2) (.int .i64 t428)) (fun _ hk => hk.2) (.int .i64 t429)) (fun _ hk => trivial)⟩, ⟨by (with_reducible repeat (first | apply Kd.V_alloc | apply Kd.V_drewN | apply Kd.V_drew)); exact Kd.V_mono (Kd.V_far (p := ⟨gb431, 2, none⟩) (Kd.V_far (p := ⟨gb431, 1, none⟩) (Kd.V_far (p := ⟨gb431, 0, none⟩) (Kd.V_mono HO_422000.out (fun k_ hk => (⟨hk, hk.2⟩ : _ ∧ k_ ≠ gb431))) (fun _ hk => hk.2) (.slice Ao25 t425.length co25)) (fun _ hk => hk.2) (.int .i64 t428)) (fun _ hk => hk.2) (.int .i64 t429)) (fun _ hk => ⟨hk.1.1.1, ⟨hk.1.1.2, hk.1.2⟩⟩)⟩, ⟨by (with_reducible repeat (first | apply Kd.V_alloc | apply Kd.V_drewN | apply Kd.V_drew)); exact Kd.V_mono (Kd.V_far (p := ⟨gb431, 2, none⟩) (Kd.V_far (p := ⟨gb431, 1, none⟩) (Kd.V_far (p := ⟨gb431, 0, none⟩) (Kd.V_mono HO427.out (fun k_ hk => (⟨hk, hk.2⟩ : _ ∧ k_ ≠ gb431))) (fun _ hk => hk.2) (.slice Ao25 t425.length co25)) (fun _ hk => hk.2) (.int .i64 t428)) (fun _ hk => hk.2) (.int .i64 t429)) (fun _ hk => ⟨hk.1.1.1, ⟨hk.1.1.2, hk.1.2⟩⟩)⟩, ⟨by (with_reducible repeat (first | refine blk_drewN ?_ _ | refine blk_drew ?_ | refine blk_alloc ?_ _)); refine blk_far ?_ NB421_431.out _; (with_reducible repeat (first | refine blk_drewN ?_ _ | refine blk_drew ?_ | refine blk_alloc ?_ _)); refine blk_far ?_ NB421_431.out _; (with_reducible repeat (first | refine blk_drewN ?_ _ | refine blk_drew ?_ | refine blk_alloc ?_ _)); refine blk_far ?_ NB421_431.out _; (with_reducible repeat (first | refine blk_drewN ?_ _ | refine blk_drew ?_ | refine blk_alloc ?_ _)); exact BK421.out⟩, ⟨by (with_reducible repeat (first | refine blk_drewN ?_ _ | refine blk_drew ?_ | refine blk_alloc ?_ _)); refine blk_put (cs := #[.slice Ao25 t425.length co25, .int .i64 t428, .int .i64 0]) ?_ 2 _ rfl; (with_reducible repeat (first | refine blk_drewN ?_ _ | refine blk_drew ?_ | refine blk_alloc ?_ _)); refine blk_put (cs := #[.slice Ao25 t425.length co25, .int .i64 0, .int .i64 0]) ?_ 1 _ rfl; (with_reducible repeat (first | refine blk_drewN ?_ _ | refine blk_drew ?_ | refine blk_alloc ?_ _)); refine blk_put (cs := #[.slice none 0 0, .int .i64 0, .int .i64 0]) ?_ 0 _ rfl; (with_reducible repeat (first | refine blk_drewN ?_ _ | refine blk_drew ?_ | refine blk_alloc ?_ _)); exact BK431.out⟩, ⟨by repeat (first | (with_reducible first | exact HB.out | apply below_alloc | apply pw_below_drewN | apply below_drew1 | refine below_set ?_ GE421.out | refine below_set ?_ GE431.out) | exact HB.out)⟩⟩
                ·
                 rw [if_neg c32] at H
                 exact absurd H (by simp)
               ·
                rw [if_neg c31] at H
                have c31b0 : (t430 == 0) = false := beq_eq_false_iff_ne.mpr c31
                have c31b1 : (t430 != 0) = true := bne_iff_ne.mpr c31
                have H' := Aside0.mk H
                clear H
                obtain ⟨Ao34, co34, eo34, _⟩ := Kd.Q_slice HO_9.out
                subst eo34
                go_wp2
                go_meet
                case rel => exact ⟨_, (true), (by first | rfl | (simp; done) | (simp [*]; done)), H', ⟨by have := HK1.out; have := HJ9.out; first | omega | exact Nat.le_refl _⟩, ⟨by (with_reducible repeat (first | apply Kd.Q_alloc | apply Kd.Q_drewN | apply Kd.Q_drew)); exact Kd.Q_mono (Kd.Q_far (p := ⟨gb431, 2, none⟩) (Kd.Q_far (p := ⟨gb431, 1, none⟩) (Kd.Q_far (p := ⟨gb431, 0, none⟩) (Kd.Q_types HO_9.out BK431.out (by decide)) (fun _ hk => hk.2) (.slice Ao25 t425.length co25)) (fun _ hk => hk.2) (.int .i64 t428)) (fun _ hk => hk.2) (.int .i64 t429)) (fun _ hk => trivial)⟩, ⟨by (with_reducible repeat (first | apply Kd.V_alloc | apply Kd.V_drewN | apply Kd.V_drew)); exact Kd.V_mono (Kd.V_far (p := ⟨gb431, 2, none⟩) (Kd.V_far (p := ⟨gb431, 1, none⟩) (Kd.V_far (p := ⟨gb431, 0, none⟩) (Kd.V_mono HO_422000.out (fun k_ hk => (⟨hk, hk.2⟩ : _ ∧ k_ ≠ gb431))) (fun _ hk => hk.2) (.slice Ao25 t425.length co25)) (fun _ hk => hk.2) (.int .i64 t428)) (fun _ hk => hk.2) (.int .i64 t429)) (fun _ hk => ⟨hk.1.1.1, ⟨hk.1.1.2, hk.1.2⟩⟩)⟩, ⟨by (with_reducible repeat (first | apply Kd.V_alloc | apply Kd.V_drewN | apply Kd.V_drew)); exact Kd.V_mono (Kd.V_far (p := ⟨gb431, 2, none⟩) (Kd.V_far (p := ⟨gb431, 1, none⟩) (Kd.V_far (p := ⟨gb431, 0, none⟩) (Kd.V_mono HO427.out (fun k_ hk => (⟨hk, hk.2⟩ : _ ∧ k_ ≠ gb431))) (fun _ hk => hk.2) (.slice Ao25 t425.length co25)) (fun _ hk => hk.2) (.int .i64 t428)) (fun _ hk => hk.2) (.int .i64 t429)) (fun _ hk => ⟨hk.1.1.1, ⟨hk.1.1.2, hk.1.2⟩⟩)⟩, ⟨by (with_reducible repeat (first | refine blk_drewN ?_ _ | refine blk_drew ?_ | refine blk_alloc ?_ _)); refine blk_far ?_ NB421_431.out _; (with_reducible repeat (first | refine blk_drewN ?_ _ | refine blk_drew ?_ | refine blk_alloc ?_ _)); refine blk_far ?_ NB421_431.out _; (with_reducible repeat (first | refine blk_drewN ?_ _ | refine blk_drew ?_ | refine blk_alloc ?_ _)); refine blk_far ?_ NB421_431.out _; (with_reducible repeat (first | refine blk_drewN ?_ _ | refine blk_drew ?_ | refine blk_alloc ?_ _)); exact BK421.out⟩, ⟨by (with_reducible repeat (first | refine blk_drewN ?_ _ | refine blk_drew ?_ | refine blk_alloc ?_ _)); refine blk_put (cs := #[.slice Ao25 t425.length co25, .int .i64 t428, .int .i64 0]) ?_ 2 _ rfl; (with_reducible repeat (first | refine blk_drewN ?_ _ | refine blk_drew ?_ | refine blk_alloc ?_ _)); refine blk_put (cs := #[.slice Ao25 t425.length co25, .int .i64 0, .int .i64 0]) ?_ 1 _ rfl; (with_reducible repeat (first | refine blk_drewN ?_ _ | refine blk_drew ?_ | refine blk_alloc ?_ _)); refine blk_put (cs := #[.slice none 0 0, .int .i64 0, .int .i64 0]) ?_ 0 _ rfl; (with_reducible repeat (first | refine blk_drewN ?_ _ | refine blk_drew ?_ | refine blk_alloc ?_ _)); exact BK431.out⟩, ⟨by repeat (first | (with_reducible first | exact HB.out | apply below_alloc | apply pw_below_drewN | apply below_drew1 | refine below_set ?_ GE421.out | refine below_set ?_ GE431.out) | exact HB.out)⟩⟩
              ·
               rw [if_neg c30] at H
               have c30b0 : decide (0 < (x9_1.length : Int)) = false := decide_eq_false c30
               have c30b1 : decide (0 < x9_1.length) = false := decide_eq_false (by omega)
               clear c30
               have H' := Aside0.mk H
               clear H
               obtain ⟨Ao35, co35, eo35, _⟩ := Kd.Q_slice HO_9.out
               subst eo35
               go_wp2
               go_meet
               case rel => exact ⟨_, (false), (by first | rfl | (simp; done) | (simp [*]; done)), H', ⟨by have := HK1.out; have := HJ9.out; first | omega | exact Nat.le_refl _⟩, ⟨by (with_reducible repeat (first | apply Kd.Q_alloc | apply Kd.Q_drewN | apply Kd.Q_drew)); exact Kd.Q_mono (Kd.Q_far (p := ⟨gb431, 2, none⟩) (Kd.Q_far (p := ⟨gb431, 1, none⟩) (Kd.Q_far (p := ⟨gb431, 0, none⟩) (Kd.Q_types HO_9.out BK431.out (by decide)) (fun _ hk => hk.2) (.slice Ao25 t425.length co25)) (fun _ hk => hk.2) (.int .i64 t428)) (fun _ hk => hk.2) (.int .i64 t429)) (fun _ hk => trivial)⟩, ⟨by (with_reducible repeat (first | apply Kd.V_alloc | apply Kd.V_drewN | apply Kd.V_drew)); exact Kd.V_mono (Kd.V_far (p := ⟨gb431, 2, none⟩) (Kd.V_far (p := ⟨gb431, 1, none⟩) (Kd.V_far (p := ⟨gb431, 0, none⟩) (Kd.V_mono HO_422000.out (fun k_ hk => (⟨hk, hk.2⟩ : _ ∧ k_ ≠ gb431))) (fun _ hk => hk.2) (.slice Ao25 t425.length co25)) (fun _ hk => hk.2) (.int .i64 t428)) (fun _ hk => hk.2) (.int .i64 t429)) (fun _ hk => ⟨hk.1.1.1, ⟨hk.1.1.2, hk.1.2⟩⟩)⟩, ⟨by (with_reducible repeat (first | apply Kd.V_alloc | apply Kd.V_drewN | apply Kd.V_drew)); exact Kd.V_mono (Kd.V_far (p := ⟨gb431, 2, none⟩) (Kd.V_far (p := ⟨gb431, 1, none⟩) (Kd.V_far (p := ⟨gb431, 0, none⟩) (Kd.V_mono HO427.out (fun k_ hk => (⟨hk, hk.2⟩ : _ ∧ k_ ≠ gb431))) (fun _ hk => hk.2) (.slice Ao25 t425.length co25)) (fun _ hk => hk.2) (.int .i64 t428)) (fun _ hk => hk.2) (.int .i64 t429)) (fun _ hk => ⟨hk.1.1.1, ⟨hk.1.1.2, hk.1.2⟩⟩)⟩, ⟨by (with_reducible repeat (first | refine blk_drewN ?_ _ | refine blk_drew ?_ | refine blk_alloc ?_ _)); refine blk_far ?_ NB421_431.out _; (with_reducible repeat (first | refine blk_drewN ?_ _ | refine blk_drew ?_ | refine blk_alloc ?_ _)); refine blk_far ?_ NB421_431.out _; (with_reducible repeat (first | refine blk_drewN ?_ _ | refine blk_drew ?_ | refine blk_alloc ?_ _)); refine blk_far ?_ NB421_431.out _; (with_reducible repeat (first | refine blk_drewN ?_ _ | refine blk_drew ?_ | refine blk_alloc ?_ _)); exact BK421.out⟩, ⟨by (with_reducible repeat (first | refine blk_drewN ?_ _ | refine blk_drew ?_ | refine blk_alloc ?_ _)); refine blk_put (cs := #[.slice Ao25 t425.length co25, .int .i64 t428, .int .i64 0]) ?_ 2 _ rfl; (with_reducible repeat (first | refine blk_drewN ?_ _ | refine blk_drew ?_ | refine blk_alloc ?_ _)); refine blk_put (cs := #[.slice Ao25 t425.length co25, .int .i64 0, .int .i64 0]) ?_ 1 _ rfl; (with_reducible repeat (first | refine blk_drewN ?_ _ | refine blk_drew ?_ | refine blk_alloc ?_ _)); refine blk_put (cs := #[.slice none 0 0, .int .i64 0, .int .i64 0]) ?_ 0 _ rfl; (with_reducible repeat (first | refine blk_drewN ?_ _ | refine blk_drew ?_ | refine blk_alloc ?_ _)); exact BK431.out⟩, ⟨by repeat (first | (with_reducible first | exact HB.out | apply below_alloc | apply pw_below_drewN | apply below_drew1 | refine below_set ?_ GE421.out | refine below_set ?_ GE431.out) | exact HB.out)⟩⟩
             ·
              rw [if_neg c29] at H
              have c29b0 : (t430 == 4) = false := beq_eq_false_iff_ne.mpr c29
              have c29b1 : (t430 != 4) = true := bne_iff_ne.mpr c29
              have H' := Aside0.mk H
              clear H
              obtain ⟨Ao36, co36, eo36, _⟩ := Kd.Q_slice HO_9.out
              subst eo36
              go_wp2
              go_meet
              case rel => exact ⟨_, (true), (by first | rfl | (simp; done) | (simp [*]; done)), H', ⟨by have := HK1.out; have := HJ9.out; first | omega | exact Nat.le_refl _⟩, ⟨by (with_reducible repeat (first | apply Kd.Q_alloc | apply Kd.Q_drewN | apply Kd.Q_drew)); exact Kd.Q_mono (Kd.Q_far (p := ⟨gb431, 2, none⟩) (Kd.Q_far (p := ⟨gb431, 1, none⟩) (Kd.Q_far (p := ⟨gb431, 0, none⟩) (Kd.Q_types HO_9.out BK431.out (by decide)) (fun _ hk => hk.2) (.slice Ao25 t425.length co25)) (fun _ hk => hk.2) (.int .i64 t428)) (fun _ hk => hk.2) (.int .i64 t429)) (fun _ hk => trivial)⟩, ⟨by (with_reducible repeat (first | apply Kd.V_alloc | apply Kd.V_drewN | apply Kd.V_drew)); exact Kd.V_mono (Kd.V_far (p := ⟨gb431, 2, none⟩) (Kd.V_far (p := ⟨gb431, 1, none⟩) (Kd.V_far (p := ⟨gb431, 0, none⟩) (Kd.V_mono HO_422000.out (fun k_ hk => (⟨hk, hk.2⟩ : _ ∧ k_ ≠ gb431))) (fun _ hk => hk.2) (.slice Ao25 t425.length co25)) (fun _ hk => hk.2) (.int .i64 t428)) (fun _ hk => hk.2) (.int .i64 t429)) (fun _ hk => ⟨hk.1.1.1, ⟨hk.1.1.2, hk.1.2⟩⟩)⟩, ⟨by (with_reducible repeat (first | apply Kd.V_alloc | apply Kd.V_drewN | apply Kd.V_drew)); exact Kd.V_mono (Kd.V_far (p := ⟨gb431, 2, none⟩) (Kd.V_far (p := ⟨gb431, 1, none⟩) (Kd.V_far (p := ⟨gb431, 0, none⟩) (Kd.V_mono HO427.out (fun k_ hk => (⟨hk, hk.2⟩ : _ ∧ k_ ≠ gb431))) (fun _ hk => hk.2) (.slice Ao25 t425.length co25)) (fun _ hk => hk.2) (.int .i64 t428)) (fun _ hk => hk.2) (.int .i64 t429)) (fun _ hk => ⟨hk.1.1.1, ⟨hk.1.1.2, hk.1.2⟩⟩)⟩, ⟨by (with_reducible repeat (first | refine blk_drewN ?_ _ | refine blk_drew ?_ | refine blk_alloc ?_ _)); refine blk_far ?_ NB421_431.out _; (with_reducible repeat (first | refine blk_drewN ?_ _ | refine blk_drew ?_ | refine blk_alloc ?_ _)); refine blk_far ?_ NB421_431.out _; (with_reducible repeat (first | refine blk_drewN ?_ _ | refine blk_drew ?_ | refine blk_alloc ?_ _)); refine blk_far ?_ NB421_431.out _; (with_reducible repeat (first | refine blk_drewN ?_ _ | refine blk_drew ?_ | refine blk_alloc ?_ _)); exact BK421.out⟩, ⟨by (with_reducible repeat (first | refine blk_drewN ?_ _ | refine blk_drew ?_ | refine blk_alloc ?_ _)); refine blk_put (cs := #[.slice Ao25 t425.length co25, .int .i64 t428, .int .i64 0]) ?_ 2 _ rfl; (with_reducible repeat (first | refine blk_drewN ?_ _ | refine blk_drew ?_ | refine blk_alloc ?_ _)); refine blk_put (cs := #[.slice Ao25 t425.length co25, .int .i64 0, .int .i64 0]) ?_ 1 _ rfl; (with_reducible repeat (first | refine blk_drewN ?_ _ | refine blk_drew ?_ | refine blk_alloc ?_ _)); refine blk_put (cs := #[.slice none 0 0, .int .i64 0, .int .i64 0]) ?_ 0 _ rfl; (with_reducible repeat (first | refine blk_drewN ?_ _ | refine blk_drew ?_ | refine blk_alloc ?_ _)); exact BK431.out⟩, ⟨by repeat (first | (with_reducible first | exact HB.out | apply below_alloc | apply pw_below_drewN | apply below_drew1 | refine below_set ?_ GE421.out | refine below_set ?_ GE431.out) | exact HB.out)⟩⟩
            ·
             rw [if_neg c28] at H
             have c28b0 : ((x9_1.length : Int) == 0) = false := beq_eq_false_iff_ne.mpr c28
             have c28b1 : ((x9_1.length : Int) != 0) = true := bne_iff_ne.mpr c28
             have c28b2 : ¬ (x9_1 = []) := fun h_ => c28 (by rw [h_]; rfl)
             (first | rw [c28b0] | (simp only [i64_w, i32_w]; rw [c28b0]) | rw [c28b1] | (simp only [i64_w, i32_w]; rw [c28b1]) | skip)
             by_cases c37 : (x9_1.length : Int) > 0
             ·
              rw [if_pos c37] at H
              have c37b0 : decide (0 < (x9_1.length : Int)) = true := decide_eq_true c37
              have c37b1 : decide (0 < x9_1.length) = true := decide_eq_true (by omega)
              clear c37
              by_cases c38 : t430 = 0
              ·
               rw [if_pos c38] at H
               have c38b0 : (t430 == 0) = true := beq_iff_eq.mpr c38
               have c38b1 : (t430 != 0) = false := bne_eq_false_iff_eq.mpr c38
               clear c38
               by_cases c39 : 0 < (x9_1.length : Int)
               ·
                rw [if_pos c39] at H
                have c39b0 : decide (0 < (x9_1.length : Int)) = true := decide_eq_true c39
                have c39b1 : decide (0 < x9_1.length) = true := decide_eq_true (by omega)
                clear c39
                have H' := Aside0.mk H
                clear H
                obtain ⟨Ao40, co40, eo40, _⟩ := Kd.Q_slice HO_9.out
                subst eo40
                have p433 : 0 ≤ (0 : Int) := (by omega)
                have q433 : 0 < (x9_1.length : Int) := of_decide_eq_true (by first | (with_reducible assumption) | assumption)
                obtain ⟨ad433, e433, hx433_0⟩ := Kd.at_int (Kd.Q_reads' HO_9.out).2.2 0 p433 q433
                cases e433
                have qi433 : (0 < x9_1.length) = True := eq_true (by omega)
                (try rw [show ((0 : Int)).toNat = 0 from rfl] at hx433_0)
                (try rw [Addr.add_zero'] at hx433_0)
                have hn433_0 : ad433.block ≠ gb431 := Kd.own_blk (Kd.Q_ne HO_9.out BK431.out (by decide))
                have hn433_1 : ad433.block ≠ gb431 := Kd.own_blk (Kd.Q_ne HO_9.out BK431.out (by decide))
                have hn433_2 : ad433.block ≠ gb431 := Kd.own_blk (Kd.Q_ne HO_9.out BK431.out (by decide))
                replace hx433_0 := (cell_far (p := ⟨gb431, 0, none⟩) (by first | (rw [add_block]; exact hn433_0) | (show (Addr.add _ _).block ≠ _; rw [add_block]; exact hn433_0) | exact hn433_0) (.slice Ao25 t425.length co25)).trans hx433_0
                replace hx433_0 := (cell_far (p := ⟨gb431, 1, none⟩) (by first | (rw [add_block]; exact hn433_1) | (show (Addr.add _ _).block ≠ _; rw [add_block]; exact hn433_1) | exact hn433_1) (.int .i64 t428)).trans hx433_0
                replace hx433_0 := (cell_far (p := ⟨gb431, 2, none⟩) (by first | (rw [add_block]; exact hn433_2) | (show (Addr.add _ _).block ≠ _; rw [add_block]; exact hn433_2) | exact hn433_2) (.int .i64 t429)).trans hx433_0
                clear hn433_0
                clear hn433_1
                clear hn433_2
                replace p433 := eq_true p433
                replace q433 := eq_true q433
                go_wp2
                go_meet
                case rel => exact ⟨_, ((t424 != (rd x9_1 0))), (by first | rfl | (simp; done) | (simp [*]; done)), H', ⟨by have := HK1.out; have := HJ9.out; first | omega | exact Nat.le_refl _⟩, ⟨by (with_reducible repeat (first | apply Kd.Q_alloc | apply Kd.Q_drewN | apply Kd.Q_drew)); exact Kd.Q_mono (Kd.Q_far (p := ⟨gb431, 2, none⟩) (Kd.Q_far (p := ⟨gb431, 1, none⟩) (Kd.Q_far (p := ⟨gb431, 0, none⟩) (Kd.Q_types HO_9.out BK431.out (by decide)) (fun _ hk => hk.2) (.slice Ao25 t425.length co25)) (fun _ hk => hk.2) (.int .i64 t428)) (fun _ hk => hk.2) (.int .i64 t429)) (fun _ hk => trivial)⟩, ⟨by (with_reducible repeat (first | apply Kd.V_alloc | apply Kd.V_drewN | apply Kd.V_drew)); exact Kd.V_mono (Kd.V_far (p := ⟨gb431, 2, none⟩) (Kd.V_far (p := ⟨gb431, 1, none⟩) (Kd.V_far (p := ⟨gb431, 0, none⟩) (Kd.V_mono HO_422000.out (fun k_ hk => (⟨hk, hk.2⟩ : _ ∧ k_ ≠ gb431))) (fun _ hk => hk.2) (.slice Ao25 t425.length co25)) (fun _ hk => hk.2) (.int .i64 t428)) (fun _ hk => hk.2) (.int .i64 t429)) (fun _ hk => ⟨hk.1.1.1, ⟨hk.1.1.2, hk.1.2⟩⟩)⟩, ⟨by (with_reducible repeat (first | apply Kd.V_alloc | apply Kd.V_drewN | apply Kd.V_drew)); exact Kd.V_mono (Kd.V_far (p := ⟨gb431, 2, none⟩) (Kd.V_far (p := ⟨gb431, 1, none⟩) (Kd.V_far (p := ⟨gb431, 0, none⟩) (Kd.V_mono HO427.out (fun k_ hk => (⟨hk, hk.2⟩ : _ ∧ k_ ≠ gb431))) (fun _ hk => hk.2) (.slice Ao25 t425.length co25)) (fun _ hk => hk.2) (.int .i64 t428)) (fun _ hk => hk.2) (.int .i64 t429)) (fun _ hk => ⟨hk.1.1.1, ⟨hk.1.1.2, hk.1.2⟩⟩)⟩, ⟨by (with_reducible repeat (first | refine blk_drewN ?_ _ | refine blk_drew ?_ | refine blk_alloc ?_ _)); refine blk_far ?_ NB421_431.out _; (with_reducible repeat (first | refine blk_drewN ?_ _ | refine blk_drew ?_ | refine blk_alloc ?_ _)); refine blk_far ?_ NB421_431.out _; (with_reducible repeat (first | refine blk_drewN ?_ _ | refine blk_drew ?_ | refine blk_alloc ?_ _)); refine blk_far ?_ NB421_431.out _; (with_reducible repeat (first | refine blk_drewN ?_ _ | refine blk_drew ?_ | refine blk_alloc ?_ _)); exact BK421.out⟩, ⟨by (with_reducible repeat (first | refine blk_drewN ?_ _ | refine blk_drew ?_ | refine blk_alloc ?_ _)); refine blk_put (cs := #[.slice Ao25 t425.length co25, .int .i64 t428, .int .i64 0]) ?_ 2 _ rfl; (with_reducible repeat (first | refine blk_drewN ?_ _ | refine blk_drew ?_ | refine blk_alloc ?_ _)); refine blk_put (cs := #[.slice Ao25 t425.length co25, .int .i64 0, .int .i64 0]) ?_ 1 _ rfl; (with_reducible repeat (first | refine blk_drewN ?_ _ | refine blk_drew ?_ | refine blk_alloc ?_ _)); refine blk_put (cs := #[.slice none 0 0, .int .i64 0, .int .i64 0]) ?_ 0 _ rfl; (with_reducible repeat (first | refine blk_drewN ?_ _ | refine blk_drew ?_ | refine blk_alloc ?_ _)); exact BK431.out⟩, ⟨by repeat (first | (with_reducible first | exact HB.out | apply below_alloc | apply pw_below_drewN | apply below_drew1 | refine below_set ?_ GE421.out | refine below_set ?_ GE431.out) | exact HB.out)⟩⟩
               ·
                rw [if_neg c39] at H
                exact absurd H (by simp)
              ·
               rw [if_neg c38] at H
               have c38b0 : (t430 == 0) = false := beq_eq_false_iff_ne.mpr c38
               have c38b1 : (t430 != 0) = true := bne_iff_ne.mpr c38
               have H' := Aside0.mk H
               clear H
               obtain ⟨Ao41, co41, eo41, _⟩ := Kd.Q_slice HO_9.out
               subst eo41
               go_wp2
               go_meet
               case rel => exact ⟨_, (true), (by first | rfl | (simp; done) | (simp [*]; done)), H', ⟨by have := HK1.out; have := HJ9.out; first | omega | exact Nat.le_refl _⟩, ⟨by (with_reducible repeat (first | apply Kd.Q_alloc | apply Kd.Q_drewN | apply Kd.Q_drew)); exact Kd.Q_mono (Kd.Q_far (p := ⟨gb431, 2, none⟩) (Kd.Q_far (p := ⟨gb431, 1, none⟩) (Kd.Q_far (p := ⟨gb431, 0, none⟩) (Kd.Q_types HO_9.out BK431.out (by decide)) (fun _ hk => hk.2) (.slice Ao25 t425.length co25)) (fun _ hk => hk.2) (.int .i64 t428)) (fun _ hk => hk.2) (.int .i64 t429)) (fun _ hk => trivial)⟩, ⟨by (with_reducible repeat (first | apply Kd.V_alloc | apply Kd.V_drewN | apply Kd.V_drew)); exact Kd.V_mono (Kd.V_far (p := ⟨gb431, 2, none⟩) (Kd.V_far (p := ⟨gb431, 1, none⟩) (Kd.V_far (p := ⟨gb431, 0, none⟩) (Kd.V_mono HO_422000.out (fun k_ hk => (⟨hk, hk.2⟩ : _ ∧ k_ ≠ gb431))) (fun _ hk => hk.2) (.slice Ao25 t425.length co25)) (fun _ hk => hk.2) (.int .i64 t428)) (fun _ hk => hk.2) (.int .i64 t429)) (fun _ hk => ⟨hk.1.1.1, ⟨hk.1.1.2, hk.1.2⟩⟩)⟩, ⟨by (with_reducible repeat (first | apply Kd.V_alloc | apply Kd.V_drewN | apply Kd.V_drew)); exact Kd.V_mono (Kd.V_far (p := ⟨gb431, 2, none⟩) (Kd.V_far (p := ⟨gb431, 1, none⟩) (Kd.V_far (p := ⟨gb431, 0, none⟩) (Kd.V_mono HO427.out (fun k_ hk => (⟨hk, hk.2⟩ : _ ∧ k_ ≠ gb431))) (fun _ hk => hk.2) (.slice Ao25 t425.length co25)) (fun _ hk => hk.2) (.int .i64 t428)) (fun _ hk => hk.2) (.int .i64 t429)) (fun _ hk => ⟨hk.1.1.1, ⟨hk.1.1.2, hk.1.2⟩⟩)⟩, ⟨by (with_reducible repeat (first | refine blk_drewN ?_ _ | refine blk_drew ?_ | refine blk_alloc ?_ _)); refine blk_far ?_ NB421_431.out _; (with_reducible repeat (first | refine blk_drewN ?_ _ | refine blk_drew ?_ | refine blk_alloc ?_ _)); refine blk_far ?_ NB421_431.out _; (with_reducible repeat (first | refine blk_drewN ?_ _ | refine blk_drew ?_ | refine blk_alloc ?_ _)); refine blk_far ?_ NB421_431.out _; (with_reducible repeat (first | refine blk_drewN ?_ _ | refine blk_drew ?_ | refine blk_alloc ?_ _)); exact BK421.out⟩, ⟨by (with_reducible repeat (first | refine blk_drewN ?_ _ | refine blk_drew ?_ | refine blk_alloc ?_ _)); refine blk_put (cs := #[.slice Ao25 t425.length co25, .int .i64 t428, .int .i64 0]) ?_ 2 _ rfl; (with_reducible repeat (first | refine blk_drewN ?_ _ | refine blk_drew ?_ | refine blk_alloc ?_ _)); refine blk_put (cs := #[.slice Ao25 t425.length co25, .int .i64 0, .int .i64 0]) ?_ 1 _ rfl; (with_reducible repeat (first | refine blk_drewN ?_ _ | refine blk_drew ?_ | refine blk_alloc ?_ _)); refine blk_put (cs := #[.slice none 0 0, .int .i64 0, .int .i64 0]) ?_ 0 _ rfl; (with_reducible repeat (first | refine blk_drewN ?_ _ | refine blk_drew ?_ | refine blk_alloc ?_ _)); exact BK431.out⟩, ⟨by repeat (first | (with_reducible first | exact HB.out | apply below_alloc | apply pw_below_drewN | apply below_drew1 | refine below_set ?_ GE421.out | refine below_set ?_ GE431.out) | exact HB.out)⟩⟩
             ·
              rw [if_neg c37] at H
              have c37b0 : decide (0 < (x9_1.length : Int)) = false := decide_eq_false c37
              have c37b1 : decide (0 < x9_1.length) = false := decide_eq_false (by omega)
              clear c37
              have H' := Aside0.mk H
              clear H
              obtain ⟨Ao42, co42, eo42, _⟩ := Kd.Q_slice HO_9.out
              subst eo42
              go_wp2
              go_meet
              case rel => exact ⟨_, (false), (by first | rfl | (simp; done) | (simp [*]; done)), H', ⟨by have := HK1.out; have := HJ9.out; first | omega | exact Nat.le_refl _⟩, ⟨by (with_reducible repeat (first | apply Kd.Q_alloc | apply Kd.Q_drewN | apply Kd.Q_drew)); exact Kd.Q_mono (Kd.Q_far (p := ⟨gb431, 2, none⟩) (Kd.Q_far (p := ⟨gb431, 1, none⟩) (Kd.Q_far (p := ⟨gb431, 0, none⟩) (Kd.Q_types HO_9.out BK431.out (by decide)) (fun _ hk => hk.2) (.slice Ao25 t425.length co25)) (fun _ hk => hk.2) (.int .i64 t428)) (fun _ hk => hk.2) (.int .i64 t429)) (fun _ hk => trivial)⟩, ⟨by (with_reducible repeat (first | apply Kd.V_alloc | apply Kd.V_drewN | apply Kd.V_drew)); exact Kd.V_mono (Kd.V_far (p := ⟨gb431, 2, none⟩) (Kd.V_far (p := ⟨gb431, 1, none⟩) (Kd.V_far (p := ⟨gb431, 0, none⟩) (Kd.V_mono HO_422000.out (fun k_ hk => (⟨hk, hk.2⟩ : _ ∧ k_ ≠ gb431))) (fun _ hk => hk.2) (.slice Ao25 t425.length co25)) (fun _ hk => hk.2) (.int .i64 t428)) (fun _ hk => hk.2) (.int .i64 t429)) (fun _ hk => ⟨hk.1.1.1, ⟨hk.1.1.2, hk.1.2⟩⟩)⟩, ⟨by (with_reducible repeat (first | apply Kd.V_alloc | apply Kd.V_drewN | apply Kd.V_drew)); exact Kd.V_mono (Kd.V_far (p := ⟨gb431, 2, none⟩) (Kd.V_far (p := ⟨gb431, 1, none⟩) (Kd.V_far (p := ⟨gb431, 0, none⟩) (Kd.V_mono HO427.out (fun k_ hk => (⟨hk, hk.2⟩ : _ ∧ k_ ≠ gb431))) (fun _ hk => hk.2) (.slice Ao25 t425.length co25)) (fun _ hk => hk.2) (.int .i64 t428)) (fun _ hk => hk.2) (.int .i64 t429)) (fun _ hk => ⟨hk.1.1.1, ⟨hk.1.1.2, hk.1.2⟩⟩)⟩, ⟨by (with_reducible repeat (first | refine blk_drewN ?_ _ | refine blk_drew ?_ | refine blk_alloc ?_ _)); refine blk_far ?_ NB421_431.out _; (with_reducible repeat (first | refine blk_drewN ?_ _ | refine blk_drew ?_ | refine blk_alloc ?_ _)); refine blk_far ?_ NB421_431.out _; (with_reducible repeat (first | refine blk_drewN ?_ _ | refine blk_drew ?_ | refine blk_alloc ?_ _)); refine blk_far ?_ NB421_431.out _; (with_reducible repeat (first | refine blk_drewN ?_ _ | refine blk_drew ?_ | refine blk_alloc ?_ _)); exact BK421.out⟩, ⟨by (with_reducible repeat (first | refine blk_drewN ?_ _ | refine blk_drew ?_ | refine blk_alloc ?_ _)); refine blk_put (cs := #[.slice Ao25 t425.length co25, .int .i64 t428, .int .i64 0]) ?_ 2 _ rfl; (with_reducible repeat (first | refine blk_drewN ?_ _ | refine blk_drew ?_ | refine blk_alloc ?_ _)); refine blk_put (cs := #[.slice Ao25 t425.length co25, .int .i64 0, .int .i64 0]) ?_ 1 _ rfl; (with_reducible repeat (first | refine blk_drewN ?_ _ | refine blk_drew ?_ | refine blk_alloc ?_ _)); refine blk_put (cs := #[.slice none 0 0, .int .i64 0, .int .i64 0]) ?_ 0 _ rfl; (with_reducible repeat (first | refine blk_drewN ?_ _ | refine blk_drew ?_ | refine blk_alloc ?_ _)); exact BK431.out⟩, ⟨by repeat (first | (with_reducible first | exact HB.out | apply below_alloc | apply pw_below_drewN | apply below_drew1 | refine below_set ?_ GE421.out | refine below_set ?_ GE431.out) | exact HB.out)⟩⟩
           case rest =>
            clear HC20
            try clear c1
            try clear q1
            try clear c2
            try clear p2
            try clear c3
            try clear p4
            try clear q4
            try clear hx4
            try clear qi4
            try clear c5
            try clear c5b0
            try clear c5b1
            try clear c7
            try clear c11
            try clear c11b0
            try clear c12
            try clear c12b0
            try clear c13
            try clear c15
            try clear c15b0
            try clear c16
            try clear c16b0
            try clear q17
            try clear c18
            try clear c23
            try clear c26
            try clear c28
            try clear c28b0
            try clear c28b1
            try clear c28b2
            try clear c29
            try clear c29b0
            try clear c29b1
            try clear c30
            try clear c30b0
            try clear c30b1
            try clear c31
            try clear c31b0
            try clear c31b1
            try clear c32
            try clear c32b0
            try clear c32b1
            try clear c37
            try clear c37b0
            try clear c37b1
            try clear c38
            try clear c38b0
            try clear c38b1
            try clear c39
            try clear c39b0
            try clear c39b1
            try clear p42
            try clear q42
            try clear hx42
            try clear hcz21_0
            try clear hcz21_1
            try clear hcz21_2
            try clear hcz27_0
            try clear hcz27_1
            try clear hcz27_2
            try clear hcz9_0
            try clear hcz9_1
            try clear hcz9_2
            try clear hfz21_0
            try clear hfz21_1
            try clear hfz21_2
            try clear hfz27_0
            try clear hfz27_1
            try clear hfz27_2
            try clear hfz9_0
            try clear hfz9_1
            try clear hfz9_2
            try clear hx423_0
            try clear hx432_0
            try clear hx433_0
            try clear p2
            try clear p423
            try clear p432
            try clear p433
            try clear q423
            try clear q432
            try clear q433
            obtain ⟨kq, x78_19, rfl, HA, HJ19, HO_9, HO_422000, HO_432000, BK421, BK431, HB⟩ := hcut
            cases kq with
            | zero => exact absurd HA.out (by simp [remontoirlaw03_RingRows.j2])
            | succ kj19 =>
             have H := HA.out
             clear HA
             simp only [remontoirlaw03_RingRows.j2] at H
             by_cases c43 : x78_19 = true
             ·
              subst c43
              have H1 : (some false) = some r := by rw [if_pos rfl] at H; exact H
              clear H
              have H := H1
              clear H1
              obtain rfl := Option.some.inj H
              go_wp2
              go_ret
              exact ⟨by first | rfl | (rw [HR_.out] <;> rfl) | (simp [errW_none, errW_some] <;> rfl) | (simp [*, errW_none, errW_some] <;> rfl), by repeat (first | (with_reducible first | exact HB.out | apply below_alloc | apply pw_below_drewN | apply below_drew1 | refine below_set ?_ GE421.out | refine below_set ?_ GE431.out) | exact HB.out)⟩
             ·
              replace c43 := Bool.eq_false_iff.mpr c43
              subst c43
              have H1 : (if (x9_1.length : Int) > 0 then (if 1 ≤ (x9_1.length : Int) then (remontoirlaw03_RingRows.j3 kj19 a0 l1 l2 (x9_1.drop (1 : Int).toNat) x10_1 t425 t428 t429) else (none)) else (remontoirlaw03_RingRows.j3 kj19 a0 l1 l2 x9_1 x10_1 t425 t428 t429)) = some r := by rw [if_neg (show ¬ (false = true) by decide)] at H; exact H
              clear H
              have H := H1
              clear H1
              have HC44 := Aside0.mk H
              clear H
              obtain ⟨Ao45, co45, eo45, _⟩ := Kd.Q_slice HO_9.out
              subst eo45
              go_upto_if 81 with (fail)
              go_cut [9] (fun v9 wc => ∃ (kq : Nat) (x9_43 : List Int), Aside0 (remontoirlaw03_RingRows.j3 kq a0 l1 l2 x9_43 x10_1 t425 t428 t429 = some r) ∧ Aside0 (kq ≤ kj19) ∧ Aside0 (Kd.Q (Kd.int .i64) 3 wc w.heap.size (fun _ => True) v9 x9_43) ∧ Aside0 (Kd.V (Kd.int .i64) 3 wc w.heap.size (fun k_ => some k_ ≠ (v9 : Value).ownBlock ∧ k_ ≠ gb421 ∧ k_ ≠ gb431) (.slice Ao22 x422000_1.length co22) x422000_1) ∧ Aside0 (Kd.V (Kd.int .i64) 3 wc w.heap.size (fun k_ => some k_ ≠ (v9 : Value).ownBlock ∧ k_ ≠ gb421 ∧ k_ ≠ gb431) (.slice Ao25 t425.length co25) t425) ∧ Aside0 (wc.heap[gb421]? = some (.cells #[(.slice Ao22 x422000_1.length co22), .int .i64 x422001_1, .int .i64 x422002_1] 24 (0, 0))) ∧ Aside0 (wc.heap[gb431]? = some (.cells #[(.slice Ao25 t425.length co25), .int .i64 t428, .int .i64 t429] 24 (0, 0))) ∧ Aside0 (Below w.heap.size w wc))
              case first =>
               have H := HC44.out
               clear HC44
               by_cases c46 : (x9_1.length : Int) > 0
               ·
                rw [if_pos c46] at H
                have c46b0 : decide (0 < (x9_1.length : Int)) = true := decide_eq_true c46
                have c46b1 : decide (0 < x9_1.length) = true := decide_eq_true (by omega)
                clear c46
                (first | rw [c46b0] | (simp only [i64_w, i32_w]; rw [c46b0]) | rw [c46b1] | (simp only [i64_w, i32_w]; rw [c46b1]) | skip)
                by_cases c47 : 1 ≤ (x9_1.length : Int)
                ·
                 rw [if_pos c47] at H
                 have c47b0 := eq_true c47
                 have c47b1 : decide (1 ≤ (x9_1.length : Int)) = true := decide_eq_true c47
                 clear c47
                 obtain ⟨y434, hy434⟩ : ∃ y_ : List Int, y_ = (x9_1.drop (1 : Int).toNat) := ⟨_, rfl⟩
                 replace H : (remontoirlaw03_RingRows.j3 kj19 a0 l1 l2 y434 x10_1 t425 t428 t429) = some r := by first | (rw [hy434]; with_reducible exact H) | (have H2_ := (Option.bind_some _ _).symm.trans H; rw [hy434]; with_reducible exact H2_) | (have H2_ := (Option.bind_some _ _).symm.trans H; with_reducible exact H2_) | with_reducible exact H | (rw [hy434]; exact H) | exact H
                 have Ny434 := Aside0.mk hy434
                 clear hy434
                 have H' := Aside0.mk H
                 clear H
                 have q48 : (1 : Int) ≤ ((x9_1.length : Int) : Int) := of_decide_eq_true (by first | (with_reducible assumption) | assumption)
                 obtain ⟨i048, hi048, _, hsz48, _⟩ := info_parts info3
                 have hcut48 := cut_from (P := Try.prog) 22 3 .i64 Try.underlying22 hi048 1 hsz48 Ao45 x9_1.length co45 1 (by omega) q48
                 have hr48 := Kd.Q_drop (k := (1 : Int).toNat) HO_9.out (by omega)
                 obtain ⟨A48, hA48⟩ : ∃ A1, A1 = (if co45 = (1 : Int).toNat then Ao45 else (Ao45 : Option Addr).map (·.add ((1 : Int).toNat * 1))) := ⟨_, rfl⟩
                 obtain ⟨c48, hc48⟩ : ∃ c1, c1 = co45 - (1 : Int).toNat := ⟨_, rfl⟩
                 have hy48 : y434.length = x9_1.length - (1 : Int).toNat := (by rw [Ny434.out, List.length_drop])
                 rw [← Ny434.out] at hr48
                 rw [← hy48, ← hA48, ← hc48] at hcut48
                 replace hr48 : Kd.Q (Kd.int .i64) 3 wc w.heap.size (fun _ => True) (.slice A48 y434.length c48) y434 := (by rw [hA48, hc48, hy48]; exact hr48)
                 have HE48 : Aside0 ((Value.slice A48 y434.length c48).ownBlock = (.slice Ao45 x9_1.length co45 : Value).ownBlock) := ⟨by rw [hA48]; split <;> (cases (Ao45 : Option Addr) <;> rfl)⟩
                 clear hy48 hi048 hsz48 HO_9 hA48 hc48
                 have HO436 := Aside0.mk hr48
                 clear hr48
                 replace q48 := eq_true q48
                 have n_ := Aside0.mk (Kd.V_mono (ok' := fun k_ => (some k_ ≠ (.slice A48 y434.length c48 : Value).ownBlock ∧ (k_ ≠ gb421 ∧ k_ ≠ gb431))) HO_422000.out (fun k_ hk => ⟨(by rw [HE48.out]; exact hk.1), ⟨hk.2.1, hk.2.2⟩⟩))
                 clear HO_422000
                 have HO_422000 := n_
                 clear n_
                 have n_ := Aside0.mk (Kd.V_mono (ok' := fun k_ => (some k_ ≠ (.slice A48 y434.length c48 : Value).ownBlock ∧ (k_ ≠ gb421 ∧ k_ ≠ gb431))) HO_432000.out (fun k_ hk => ⟨(by rw [HE48.out]; exact hk.1), ⟨hk.2.1, hk.2.2⟩⟩))
                 clear HO_432000
                 have HO_432000 := n_
                 clear n_
                 go_wp2
                 go_meet
                 case rel => exact ⟨_, (y434), H', ⟨by have := HK1.out; have := HJ9.out; have := HJ19.out; first | omega | exact Nat.le_refl _⟩, ⟨by (with_reducible repeat (first | apply Kd.Q_alloc | apply Kd.Q_drewN | apply Kd.Q_drew)); exact HO436.out⟩, ⟨by (with_reducible repeat (first | apply Kd.V_alloc | apply Kd.V_drewN | apply Kd.V_drew)); exact HO_422000.out⟩, ⟨by (with_reducible repeat (first | apply Kd.V_alloc | apply Kd.V_drewN | apply Kd.V_drew)); exact HO_432000.out⟩, ⟨by (with_reducible repeat (first | refine blk_drewN ?_ _ | refine blk_drew ?_ | refine blk_alloc ?_ _)); exact BK421.out⟩, ⟨by (with_reducible repeat (first | refine blk_drewN ?_ _ | refine blk_drew ?_ | refine blk_alloc ?_ _)); exact BK431.out⟩, ⟨by repeat (first | (with_reducible first | exact HB.out | apply below_alloc | apply pw_below_drewN | apply below_drew1 | refine below_set ?_ GE421.out | refine below_set ?_ GE431.out) | exact HB.out)⟩⟩
                ·
                 rw [if_neg c47] at H
                 exact absurd H (by simp)
               ·
                rw [if_neg c46] at H
                have c46b0 : decide (0 < (x9_1.length : Int)) = false := decide_eq_false c46
                have c46b1 : decide (0 < x9_1.length) = false := decide_eq_false (by omega)
                clear c46
                (first | rw [c46b0] | (simp only [i64_w, i32_w]; rw [c46b0]) | rw [c46b1] | (simp only [i64_w, i32_w]; rw [c46b1]) | skip)
                have H' := Aside0.mk H
                clear H
                go_wp2
                go_meet
                case rel => exact ⟨_, (x9_1), H', ⟨by have := HK1.out; have := HJ9.out; have := HJ19.out; first | omega | exact Nat.le_refl _⟩, ⟨by (with_reducible repeat (first | apply Kd.Q_alloc | apply Kd.Q_drewN | apply Kd.Q_drew)); exact HO_9.out⟩, ⟨by (with_reducible repeat (first | apply Kd.V_alloc | apply Kd.V_drewN | apply Kd.V_drew)); exact HO_422000.out⟩, ⟨by (with_reducible repeat (first | apply Kd.V_alloc | apply Kd.V_drewN | apply Kd.V_drew)); exact HO_432000.out⟩, ⟨by (with_reducible repeat (first | refine blk_drewN ?_ _ | refine blk_drew ?_ | refine blk_alloc ?_ _)); exact BK421.out⟩, ⟨by (with_reducible repeat (first | refine blk_drewN ?_ _ | refine blk_drew ?_ | refine blk_alloc ?_ _)); exact BK431.out⟩, ⟨by repeat (first | (with_reducible first | exact HB.out | apply below_alloc | apply pw_below_drewN | apply below_drew1 | refine below_set ?_ GE421.out | refine below_set ?_ GE431.out) | exact HB.out)⟩⟩
              case rest =>
               clear HC44
               try clear c1
               try clear q1
               try clear c2
               try clear p2
               try clear c3
               try clear c4
               try clear p4
               try clear q4
               try clear hx4
               try clear qi4
               try clear c5
               try clear c5b0
               try clear c5b1
               try clear c7
               try clear c11
               try clear c11b0
               try clear c12
               try clear c12b0
               try clear c13
               try clear c15
               try clear c15b0
               try clear c16
               try clear c16b0
               try clear q17
               try clear c18
               try clear c23
               try clear c26
               try clear c28
               try clear c28b0
               try clear c28b1
               try clear c28b2
               try clear c29
               try clear c29b0
               try clear c29b1
               try clear c30
               try clear c30b0
               try clear c30b1
               try clear c31
               try clear c31b0
               try clear c31b1
               try clear c32
               try clear c32b0
               try clear c32b1
               try clear c37
               try clear c37b0
               try clear c37b1
               try clear c38
               try clear c38b0
               try clear c38b1
               try clear c39
               try clear c39b0
               try clear c39b1
               try clear p42
               try clear q42
               try clear hx42
               try clear c43
               try clear p43
               try clear q43
               try clear hx43
               try clear qi43
               try clear c46
               try clear c46b0
               try clear c46b1
               try clear c47
               try clear c47b0
               try clear c47b1
               try clear c48
               try clear q48
               try clear hcz21_0
               try clear hcz21_1
               try clear hcz21_2
               try clear hcz27_0
               try clear hcz27_1
               try clear hcz27_2
               try clear hcz9_0
               try clear hcz9_1
               try clear hcz9_2
               try clear hfz21_0
               try clear hfz21_1
               try clear hfz21_2
               try clear hfz27_0
               try clear hfz27_1
               try clear hfz27_2
               try clear hfz9_0
               try clear hfz9_1
               try clear hfz9_2
               try clear hx423_0
               try clear hx432_0
               try clear hx433_0
               try clear p2
               try clear p4
               try clear p42
               try clear p423
               try clear p432
               try clear p433
               try clear q1
               try clear q17
               try clear q4
               try clear q42
               try clear q423
               try clear q432
               try clear q433
               try clear q48
               obtain ⟨kq, x9_43, HA, HJ43, HO_9, HO_422000, HO_432000, BK421, BK431, HB⟩ := hcut
               cases kq with
               | zero => exact absurd HA.out (by simp [remontoirlaw03_RingRows.j3])
               | succ kj43 =>
                have H := HA.out
                clear HA
                simp only [remontoirlaw03_RingRows.j3] at H
                have H' := Aside0.mk H
                clear H
                have hnb49 := NB431_421.out
                have hnc49 := NB421_431.out
                have hcz50_0 : wc.cell? ⟨gb431, 0, none⟩ = some (.slice Ao25 t425.length co25) := (blk_cell BK431.out 0).trans rfl
                have hcz50_1 : wc.cell? ⟨gb431, 1, none⟩ = some (.int .i64 t428) := (blk_cell BK431.out 1).trans rfl
                have hcz50_2 : wc.cell? ⟨gb431, 2, none⟩ = some (.int .i64 t429) := (blk_cell BK431.out 2).trans rfl
                have hfz50_0 := blk_frozen BK431.out 0
                have hfz50_1 := blk_frozen BK431.out 1
                have hfz50_2 := blk_frozen BK431.out 2
                have hcz51_0 : wc.cell? ⟨gb421, 0, none⟩ = some (.slice Ao22 x422000_1.length co22) := (blk_cell BK421.out 0).trans rfl
                have hcz51_1 : wc.cell? ⟨gb421, 1, none⟩ = some (.int .i64 x422001_1) := (blk_cell BK421.out 1).trans rfl
                have hcz51_2 : wc.cell? ⟨gb421, 2, none⟩ = some (.int .i64 x422002_1) := (blk_cell BK421.out 2).trans rfl
                have hfz51_0 := blk_frozen BK421.out 0
                have hfz51_1 := blk_frozen BK421.out 1
                have hfz51_2 := blk_frozen BK421.out 2
                go_wp2
                go_meet
                case rel => exact ⟨_, (x9_43), (t425), (t428), (t429), (.slice Ao25 t425.length co25), H', ⟨by have := HK1.out; have := HJ9.out; have := HJ19.out; have := HJ43.out; first | omega | exact Nat.le_refl _⟩, ⟨by (with_reducible repeat (first | apply Kd.Q_alloc | apply Kd.Q_drewN | apply Kd.Q_drew)); exact Kd.Q_mono (Kd.Q_far (p := ⟨gb421, 2, none⟩) (Kd.Q_far (p := ⟨gb421, 1, none⟩) (Kd.Q_far (p := ⟨gb421, 0, none⟩) (Kd.Q_types HO_9.out BK421.out (by decide)) (fun _ hk => hk.2) (.slice Ao25 t425.length co25)) (fun _ hk => hk.2) (.int .i64 t428)) (fun _ hk => hk.2) (.int .i64 t429)) (fun _ hk => trivial)⟩, ⟨by (with_reducible repeat (first | apply Kd.V_alloc | apply Kd.V_drewN | apply Kd.V_drew)); exact Kd.V_mono (Kd.V_far (p := ⟨gb421, 2, none⟩) (Kd.V_far (p := ⟨gb421, 1, none⟩) (Kd.V_far (p := ⟨gb421, 0, none⟩) (Kd.V_mono HO_432000.out (fun k_ hk => (⟨hk, hk.2.1⟩ : _ ∧ k_ ≠ gb421))) (fun _ hk => hk.2) (.slice Ao25 t425.length co25)) (fun _ hk => hk.2) (.int .i64 t428)) (fun _ hk => hk.2) (.int .i64 t429)) (fun _ hk => ⟨hk.1.1, hk.1.2.1⟩)⟩, ⟨by (with_reducible repeat (first | refine blk_drewN ?_ _ | refine blk_drew ?_ | refine blk_alloc ?_ _)); refine blk_put (cs := #[.slice Ao25 t425.length co25, .int .i64 t428, .int .i64 x422002_1]) ?_ 2 _ rfl; (with_reducible repeat (first | refine blk_drewN ?_ _ | refine blk_drew ?_ | refine blk_alloc ?_ _)); refine blk_put (cs := #[.slice Ao25 t425.length co25, .int .i64 x422001_1, .int .i64 x422002_1]) ?_ 1 _ rfl; (with_reducible repeat (first | refine blk_drewN ?_ _ | refine blk_drew ?_ | refine blk_alloc ?_ _)); refine blk_put (cs := #[.slice Ao22 x422000_1.length co22, .int .i64 x422001_1, .int .i64 x422002_1]) ?_ 0 _ rfl; (with_reducible repeat (first | refine blk_drewN ?_ _ | refine blk_drew ?_ | refine blk_alloc ?_ _)); exact BK421.out⟩, ⟨by repeat (first | (with_reducible first | exact HB.out | apply below_alloc | apply pw_below_drewN | apply below_drew1 | refine below_set ?_ GE421.out | refine below_set ?_ GE431.out) | exact HB.out)⟩⟩
          ·
           replace c18 := Bool.eq_false_iff.mpr c18
           subst c18
           have H1 : (if x10_1 < (l1.length : Int) then ((ring_Push.f kj9 x422000_1 x422001_1 x422002_1 (rd l1 x10_1)).bind fun bt438 => (if ((bt438.2.2.2 == 0) != (decide ((x9_1.length : Int) < a0))) = true then (some false) else (if bt438.2.2.2 = 0 then ((some (([] : List Int) : List Int)).bind fun y445 => (if y445.length + x9_1.length < 17592186044416 then ((some (y445 ++ x9_1 : List Int)).bind fun y448 => ((some (([rd l1 x10_1] : List Int) : List Int)).bind fun y452 => (if y448.length + y452.length < 17592186044416 then (remontoirlaw03_RingRows.j4 kj9 a0 l1 l2 (y448 ++ y452) x10_1 bt438.1 bt438.2.1 bt438.2.2.1) else (none)))) else (none))) else (remontoirlaw03_RingRows.j4 kj9 a0 l1 l2 x9_1 x10_1 bt438.1 bt438.2.1 bt438.2.2.1)))) else (none)) = some r := by rw [if_neg (show ¬ (false = true) by decide)] at H; exact H
           clear H
           have H := H1
           clear H1
           by_cases c52 : x10_1 < (l1.length : Int)
           ·
            rw [if_pos c52] at H
            have c52b0 : decide (x10_1 < (l1.length : Int)) = true := decide_eq_true c52
            clear c52
            replace H := Option.bind_eq_some_iff.mp H
            obtain ⟨⟨t438, t441, t442, t443⟩, A530, H⟩ := H
            replace H : (if ((t443 == 0) != (decide ((x9_1.length : Int) < a0))) = true then (some false) else (if t443 = 0 then ((some (([] : List Int) : List Int)).bind fun y445 => (if y445.length + x9_1.length < 17592186044416 then ((some (y445 ++ x9_1 : List Int)).bind fun y448 => ((some (([rd l1 x10_1] : List Int) : List Int)).bind fun y452 => (if y448.length + y452.length < 17592186044416 then (remontoirlaw03_RingRows.j4 kj9 a0 l1 l2 (y448 ++ y452) x10_1 t438 t441 t442) else (none)))) else (none))) else (remontoirlaw03_RingRows.j4 kj9 a0 l1 l2 x9_1 x10_1 t438 t441 t442))) = some r := H
            have A53 := Aside0.mk A530
            clear A530
            by_cases c54 : ((t443 == 0) != (decide ((x9_1.length : Int) < a0))) = true
            ·
             rw [if_pos c54] at H
             have c54b0 : ((t443 == 0) != (decide ((x9_1.length : Int) < a0))) = true := c54
             (try (have c54b1 : decide ((t443 == 0) = (decide ((x9_1.length : Int) < a0))) = false := by simpa using c54))
             (try (have c54b2 : ((t443 == 0) == (decide ((x9_1.length : Int) < a0))) = false := by simpa using c54))
             (try (have c54b3 : ¬ ((t443 == 0) = (decide ((x9_1.length : Int) < a0))) := by simpa using c54))
             clear c54
             obtain rfl := Option.some.inj H
             have p423 : 0 ≤ (x10_1 : Int) := of_decide_eq_true (by first | (with_reducible assumption) | assumption)
             have q423 : x10_1 < (l2.length : Int) := of_decide_eq_true (by first | (with_reducible assumption) | assumption)
             obtain ⟨ad423, e423, hx423_0⟩ := Kd.at_bool HR2.out x10_1 p423 q423
             (try rw [← Nbq17.out] at hx423_0)
             cases e423
             replace hx423_0 := (HB.out.cell (World.block_lt_of_cell? w _ hx423_0)).trans hx423_0
             replace p423 := eq_true p423
             replace q423 := eq_true q423
             obtain ⟨Ao55, co55, eo55⟩ := Kd.V_slice HO_422000.out
             subst eo55
             try go_wp2
             have n0_ := Aside0.mk (Kd.Q_drew HO_9.out)
             have n1_ := Aside0.mk (Kd.V_drew HO_422000.out)
             have n2_ := Aside0.mk (blk_drew BK421.out)
             have n3_ := Aside0.mk (below_drew1 HB.out)
             clear HO_9
             clear HO_422000
             clear BK421
             clear HB
             have HO_9 := n0_
             have HO_422000 := n1_
             have BK421 := n2_
             have HB := n3_
             clear n0_ n1_ n2_ n3_
             have p437 : 0 ≤ (x10_1 : Int) := of_decide_eq_true (by first | (with_reducible assumption) | assumption)
             have q437 : x10_1 < (l1.length : Int) := of_decide_eq_true (by first | (with_reducible assumption) | assumption)
             obtain ⟨ad437, e437, hx437_0⟩ := Kd.at_int HR1.out x10_1 p437 q437
             have hw437_0 := hx437_0
             cases e437
             replace hx437_0 := (HB.out.cell (World.block_lt_of_cell? w _ hx437_0)).trans hx437_0
             replace p437 := eq_true p437
             replace q437 := eq_true q437
             refine start_ (n := 12) (S := fun w' => w'.cell? ⟨gb421, 0, none⟩ = some (.slice Ao55 x422000_1.length co55) ∧ w'.cell? ⟨gb421, 1, none⟩ = some (.int .i64 x422001_1) ∧ w'.cell? ⟨gb421, 2, none⟩ = some (.int .i64 x422002_1) ∧ w'.cell? (ad437.add (x10_1).toNat) = some (.int .i64 (rd l1 x10_1))) (ds := []) #[false, false, false, false, false, false, false, false, false, false, false, false] (by kernel_rfl) rfl rfl ⟨(blk_cell BK421.out 0).trans rfl, (blk_cell BK421.out 1).trans rfl, (blk_cell BK421.out 2).trans rfl, ((HB.out.cell (World.block_lt_of_cell? w _ hw437_0)).trans hw437_0)⟩ (fun hHeld => ?_); refine with_tabW remontoirlaw03_RingRows.tab15 remontoirlaw03_RingRows.bits15 (fun HT_ HW_ => ?_)
             generalize wc.drew = w56 at HO_9 HO_422000 BK421 HB hx437_0 hHeld ⊢
             refine pure_ (i := 1) (N := some 87) (v := ?_) (a' := ?_) #[false, true, false, false, false, false, false, false, false, false, false, false] rfl rfl (any_of HT_.out (by kernel_rfl)) (fun _ _ _ h => h) (Or.inl ⟨by rfl, ?_⟩) ?_ ?_
             rotate_left
             ·
              intro w'
              go_simp
              with_reducible rfl
             rotate_left
             ·
              simp only [Act.put, sbA, sbB, sbC, i64_w, i32_w]
              rfl
             refine pure_ (i := 2) (N := some 88) (v := ?_) (a' := ?_) #[false, true, true, false, false, false, false, false, false, false, false, false] rfl rfl (any_of HT_.out (by kernel_rfl)) (fun _ _ _ h => h) (Or.inl ⟨by rfl, ?_⟩) ?_ ?_
             rotate_left
             ·
              intro w'
              go_simp
              with_reducible rfl
             rotate_left
             ·
              simp only [Act.put, sbA, sbB, sbC, i64_w, i32_w]
              rfl
             refine pure_ (i := 3) (N := some 89) (v := ?_) (a' := ?_) #[false, true, true, true, false, false, false, false, false, false, false, false] rfl rfl (any_of HT_.out (by kernel_rfl)) (fun _ _ _ h => h) (Or.inl ⟨by rfl, ?_⟩) ?_ ?_
             rotate_left
             ·
              intro w'
              go_simp
              with_reducible rfl
             rotate_left
             ·
              simp only [Act.put, sbA, sbB, sbC, i64_w, i32_w]
              rfl
             refine take_ (i := 0) (N := some 86) (v := ?_) (a' := ?_) #[true, true, true, true, false, false, false, false, false, false, false, false] rfl rfl (take_ofW HT_.out HW_.out (by kernel_rfl)) (fun _ _ _ h => h) (Or.inl ⟨by rfl, ?_⟩) hHeld ?_ ?_
             rotate_left
             ·
              rintro w' ⟨s0, s1, s2, s3⟩
              go_simp
              with_reducible rfl
             rotate_left
             ·
              simp only [Act.put, sbA, sbB, sbC, i64_w, i32_w]
              rfl
             refine take_ (i := 4) (N := some 90) (v := ?_) (a' := ?_) #[true, true, true, true, true, false, false, false, false, false, false, false] rfl rfl (take_ofW HT_.out HW_.out (by kernel_rfl)) (fun _ _ _ h => h) (Or.inl ⟨by rfl, ?_⟩) hHeld ?_ ?_
             rotate_left
             ·
              rintro w' ⟨s0, s1, s2, s3⟩
              go_simp
              with_reducible rfl
             rotate_left
             ·
              simp only [Act.put, sbA, sbB, sbC, i64_w, i32_w]
              rfl
             refine join_ (σ := Value × Nat) 2 #[true, true, true, true, true, true, true, true, true, true, false, false] (fun s_ => [(91, .tuple #[.agg #[s_.1, .int .i64 t441, .int .i64 t442], .int .i64 t443]), (14, .pointer (some ⟨s_.2, 0, none⟩)), (85, .tuple #[.agg #[s_.1, .int .i64 t441, .int .i64 t442], .int .i64 t443]), (92, .agg #[s_.1, .int .i64 t441, .int .i64 t442]), (93, .int .i64 t443)]) (fun s_ w' => (w'.cell? ⟨gb421, 0, none⟩ = some (.slice Ao55 x422000_1.length co55) ∧ w'.cell? ⟨gb421, 1, none⟩ = some (.int .i64 x422001_1) ∧ w'.cell? ⟨gb421, 2, none⟩ = some (.int .i64 x422002_1) ∧ w'.cell? (ad437.add (x10_1).toNat) = some (.int .i64 (rd l1 x10_1))) ∧ (Kd.V (Kd.int .i64) 3 w' w.heap.size (fun k_ => some k_ ≠ (u9 : Value).ownBlock ∧ k_ ≠ gb421 ∧ k_ ≠ s_.2) s_.1 t438) ∧ (Kd.V (Kd.int .i64) 3 w' w.heap.size (fun k_ => some k_ ≠ (u9 : Value).ownBlock ∧ k_ ≠ gb421 ∧ k_ ≠ s_.2) (.slice Ao55 x422000_1.length co55) x422000_1) ∧ (Kd.Q (Kd.int .i64) 3 w' w.heap.size (fun _ => True) u9 x9_1) ∧ (w'.heap[gb421]? = some (.cells #[.slice Ao55 x422000_1.length co55, .int .i64 x422001_1, .int .i64 x422002_1] 24 (0, 0))) ∧ (w'.heap[s_.2]? = some (.cells #[.slice none 0 0, .int .i64 0, .int .i64 0] 24 (0, 0))) ∧ (w.heap.size ≤ s_.2) ∧ (w.heap.size ≤ s_.2) ∧ (gb421 ≠ s_.2) ∧ (s_.2 ≠ gb421) ∧ (Below w.heap.size w w')) ?_ ?_
             rotate_left
             ·
              intro hCont
              refine two_ (i := 5) (j := 9) (Ni := some 91) (Nj := some 14) #[true, true, true, true, true, true, false, false, false, false, false, false] #[true, true, true, true, true, false, false, false, false, true, false, false] rfl rfl rfl rfl (two_of HT_.out (by kernel_rfl)) (by decide) (by decide) (fun K hK => ?_) (fun K hK => ?_)
              ·
               skip
               refine goes_ Try.func21 (by kernel_rfl) rfl #[.agg #[.slice Ao55 x422000_1.length co55, .int .i64 x422001_1, .int .i64 x422002_1], .int .i64 (rd l1 x10_1)] (by rfl) rfl rfl (by (try simp only [List.map_toArray, List.map_cons, List.map_nil]); first | done | rfl | (simp only [List.length_drop, List.length_take]; rfl)) ?_
               with_reducible refine (ring_Push.calls kj9 (fun k_ => (some k_ ≠ (u9 : Value).ownBlock ∧ k_ ≠ gb421)) _ _ x422000_1 x422001_1 x422002_1 (rd l1 x10_1) t438 t441 t442 t443 _ ?side1 A53.out).mono ?_
               (case side1 => exact HO_422000.out)
               rintro e w57 ⟨v439, rfl, ho0, hb⟩
               refine ⟨_, rfl, ?_⟩
               have n0_ := Aside0.mk (Kd.Q_below (by (with_reducible repeat (first | apply Kd.Q_alloc | apply Kd.Q_drewN | apply Kd.Q_drew)); exact HO_9.out) hb)
               have n1_ := Aside0.mk (Kd.V_below (by (with_reducible repeat (first | apply Kd.V_alloc | apply Kd.V_drewN | apply Kd.V_drew)); exact HO_422000.out) hb)
               have n2_ := Aside0.mk (Kd.V_lower (Kd.V_mono (ok' := fun k_ => some k_ ≠ (u9 : Value).ownBlock ∧ k_ ≠ gb421) ho0 (fun k_ hk_ => ⟨Or.elim hk_ (fun hs_ => hs_.1) (fun hn_ => (Kd.fresh' (Kd.Q_lt (by (with_reducible repeat (first | apply Kd.Q_alloc | apply Kd.Q_drewN | apply Kd.Q_drew)); exact HO_9.out)) k_ hn_)), Or.elim hk_ (fun hs_ => hs_.2) (fun hn_ => (Kd.freshB (g := gb421) (o := .cells #[.slice Ao55 x422000_1.length co55, .int .i64 x422001_1, .int .i64 x422002_1] 24 (0, 0)) (by (with_reducible repeat (first | refine blk_drewN ?_ _ | refine blk_drew ?_ | refine blk_alloc ?_ _)); exact BK421.out) k_ hn_))⟩)) (below_size (by repeat (first | (with_reducible first | exact HB.out | apply below_alloc | apply pw_below_drewN | apply below_drew1 | refine below_set ?_ GE421.out) | exact HB.out))))
               have n3_ := Aside0.mk (blk_below (g := gb421) (o := .cells #[.slice Ao55 x422000_1.length co55, .int .i64 x422001_1, .int .i64 x422002_1] 24 (0, 0)) (by (with_reducible repeat (first | refine blk_drewN ?_ _ | refine blk_drew ?_ | refine blk_alloc ?_ _)); exact BK421.out) hb)
               have n4_ := Aside0.mk (below_step (by repeat (first | (with_reducible first | exact HB.out | apply below_alloc | apply pw_below_drewN | apply below_drew1 | refine below_set ?_ GE421.out) | exact HB.out)) hb)
               clear HO_9
               clear HO_422000
               clear BK421
               clear HB
               have HO_9 := n0_
               have HO_422000 := n1_
               have HO440 := n2_
               have BK421 := n3_
               have HB := n4_
               clear n0_ n1_ n2_ n3_ n4_
               (try clear hb)
               (try clear hb2)
               (try clear hk)
               (try clear hi)
               (try clear ho0)
               refine hK.out _ _ ⟨(blk_cell BK421.out 0).trans rfl, (blk_cell BK421.out 1).trans rfl, (blk_cell BK421.out 2).trans rfl, ((HB.out.cell (World.block_lt_of_cell? w _ hw437_0)).trans hw437_0)⟩ (fun hHeld => ?_)
               clear hK K
               refine norm_ (a' := ?_) ?_ ?_
               rotate_left
               ·
                show Act.put _ (some 91) _ = _
                simp only [Act.put, sbA, sbB, sbC, i64_w, i32_w]
                rfl
               refine pure_ (i := 6) (N := some 85) (v := ?_) (a' := ?_) #[true, true, true, true, true, true, true, false, false, false, false, false] rfl rfl (any_of HT_.out (by kernel_rfl)) (fun _ _ _ h => h) (Or.inl ⟨by rfl, ?_⟩) ?_ ?_
               rotate_left
               ·
                intro w'
                go_simp
                with_reducible rfl
               rotate_left
               ·
                simp only [Act.put, sbA, sbB, sbC, i64_w, i32_w]
                rfl
               refine pure_ (i := 7) (N := some 92) (v := ?_) (a' := ?_) #[true, true, true, true, true, true, true, true, false, false, false, false] rfl rfl (any_of HT_.out (by kernel_rfl)) (fun _ _ _ h => h) (Or.inl ⟨by rfl, ?_⟩) ?_ ?_
               rotate_left
               ·
                intro w'
                go_simp
                with_reducible rfl
               rotate_left
               ·
                simp only [Act.put, sbA, sbB, sbC, i64_w, i32_w]
                rfl
               refine pure_ (i := 8) (N := some 93) (v := ?_) (a' := ?_) #[true, true, true, true, true, true, true, true, true, false, false, false] rfl rfl (any_of HT_.out (by kernel_rfl)) (fun _ _ _ h => h) (Or.inl ⟨by rfl, ?_⟩) ?_ ?_
               rotate_left
               ·
                intro w'
                go_simp
                with_reducible rfl
               rotate_left
               ·
                simp only [Act.put, sbA, sbB, sbC, i64_w, i32_w]
                rfl
               refine one_ (i := 9) (N := some 14) #[true, true, true, true, true, true, true, true, true, true, false, false] rfl rfl (one_of HT_.out (by kernel_rfl)) (by decide) (fun K hK => ?_)
               refine box_step ?hg (N := 14) ?hd (cs := #[.slice none 0 0, .int .i64 0, .int .i64 0]) (t := 24) ?hr ?_; (case hd => rfl); (case hg => rfl); (case hr => first | (go_simp; done) | (go_simp; rfl))
               intro gb444 hg w58 hbox hb
               have n0_ := Aside0.mk (Kd.Q_below (by (with_reducible repeat (first | apply Kd.Q_alloc | apply Kd.Q_drewN | apply Kd.Q_drew)); exact HO_9.out) hb)
               have n1_ := Aside0.mk (Kd.V_below (Kd.V_elderB (by (with_reducible repeat (first | apply Kd.V_alloc | apply Kd.V_drewN | apply Kd.V_drew)); exact HO_422000.out) gb444 (Nat.le_of_eq hg.symm)) hb)
               have n2_ := Aside0.mk (Kd.V_below (Kd.V_elderB (by (with_reducible repeat (first | apply Kd.V_alloc | apply Kd.V_drewN | apply Kd.V_drew)); exact HO440.out) gb444 (Nat.le_of_eq hg.symm)) hb)
               have n3_ := Aside0.mk (blk_below (g := gb421) (o := .cells #[.slice Ao55 x422000_1.length co55, .int .i64 x422001_1, .int .i64 x422002_1] 24 (0, 0)) (by (with_reducible repeat (first | refine blk_drewN ?_ _ | refine blk_drew ?_ | refine blk_alloc ?_ _)); exact BK421.out) hb)
               have n4_ := Aside0.mk (below_step (by repeat (first | (with_reducible first | exact HB.out | apply below_alloc | apply pw_below_drewN | apply below_drew1 | refine below_set ?_ GE421.out) | exact HB.out)) hb)
               have n5_ := Aside0.mk (hbox)
               have n6_ := Aside0.mk ((by rw [hg]; exact (below_size (by repeat (first | (with_reducible first | exact HB.out | apply below_alloc | apply pw_below_drewN | apply below_drew1 | refine below_set ?_ GE421.out) | exact HB.out))) : w.heap.size ≤ gb444))
               have n7_ := Aside0.mk ((by rw [hg]; exact (below_size (by repeat (first | (with_reducible first | exact HB.out | apply below_alloc | apply pw_below_drewN | apply below_drew1 | refine below_set ?_ GE421.out) | exact HB.out))) : w.heap.size ≤ gb444))
               have n8_ := Aside0.mk ((by rw [hg]; exact Nat.ne_of_lt (blk_lt (g := gb421) (o := .cells #[.slice Ao55 x422000_1.length co55, .int .i64 x422001_1, .int .i64 x422002_1] 24 (0, 0)) (by (with_reducible repeat (first | refine blk_drewN ?_ _ | refine blk_drew ?_ | refine blk_alloc ?_ _)); exact BK421.out)) : gb421 ≠ gb444))
               have n9_ := Aside0.mk ((by rw [hg]; exact Nat.ne_of_gt (blk_lt (g := gb421) (o := .cells #[.slice Ao55 x422000_1.length co55, .int .i64 x422001_1, .int .i64 x422002_1] 24 (0, 0)) (by (with_reducible repeat (first | refine blk_drewN ?_ _ | refine blk_drew ?_ | refine blk_alloc ?_ _)); exact BK421.out)) : gb444 ≠ gb421))
               clear HO_9
               clear HO_422000
               clear HO440
               clear BK421
               clear HB
               have HO_9 := n0_
               have HO_422000 := n1_
               have HO440 := n2_
               have BK421 := n3_
               have HB := n4_
               have BK444 := n5_
               have GW444 := n6_
               have GE444 := n7_
               have NB421_444 := n8_
               have NB444_421 := n9_
               clear n0_ n1_ n2_ n3_ n4_ n5_ n6_ n7_ n8_ n9_
               clear hb hbox hg
               refine hK.out _ _ ⟨(blk_cell BK421.out 0).trans rfl, (blk_cell BK421.out 1).trans rfl, (blk_cell BK421.out 2).trans rfl, ((HB.out.cell (World.block_lt_of_cell? w _ hw437_0)).trans hw437_0)⟩ (fun hHeld => ?_)
               clear hK K
               refine norm_ (a' := ?_) ?_ ?_
               rotate_left
               ·
                show Act.put _ (some 14) _ = _
                simp only [Act.put, sbA, sbB, sbC, i64_w, i32_w]
                rfl
               exact norm_ (by simp only [putAll, Act.put, sbA, sbB, sbC]) (hCont (v439, gb444) _ ⟨hHeld, (by (with_reducible repeat (first | apply Kd.V_alloc | apply Kd.V_drewN | apply Kd.V_drew)); exact Kd.V_mono HO440.out (fun _ hk => ⟨hk.1.1, ⟨hk.1.2, hk.2⟩⟩)), (by (with_reducible repeat (first | apply Kd.V_alloc | apply Kd.V_drewN | apply Kd.V_drew)); exact Kd.V_mono HO_422000.out (fun _ hk => ⟨hk.1.1, ⟨hk.1.2, hk.2⟩⟩)), (by (with_reducible repeat (first | apply Kd.Q_alloc | apply Kd.Q_drewN | apply Kd.Q_drew)); exact HO_9.out), (by (with_reducible repeat (first | refine blk_drewN ?_ _ | refine blk_drew ?_ | refine blk_alloc ?_ _)); exact BK421.out), (by (with_reducible repeat (first | refine blk_drewN ?_ _ | refine blk_drew ?_ | refine blk_alloc ?_ _)); exact BK444.out), GW444.out, GE444.out, NB421_444.out, NB444_421.out, (by repeat (first | (with_reducible first | exact HB.out | apply below_alloc | apply pw_below_drewN | apply below_drew1 | refine below_set ?_ GE421.out | refine below_set ?_ GE444.out) | exact HB.out))⟩)
              ·
               skip
               refine box_step ?hg (N := 14) ?hd (cs := #[.slice none 0 0, .int .i64 0, .int .i64 0]) (t := 24) ?hr ?_; (case hd => rfl); (case hg => rfl); (case hr => first | (go_simp; done) | (go_simp; rfl))
               intro gb444 hg w57 hbox hb
               have n0_ := Aside0.mk (Kd.Q_below (by (with_reducible repeat (first | apply Kd.Q_alloc | apply Kd.Q_drewN | apply Kd.Q_drew)); exact HO_9.out) hb)
               have n1_ := Aside0.mk (Kd.V_below (Kd.V_elderB (by (with_reducible repeat (first | apply Kd.V_alloc | apply Kd.V_drewN | apply Kd.V_drew)); exact HO_422000.out) gb444 (Nat.le_of_eq hg.symm)) hb)
               have n2_ := Aside0.mk (blk_below (g := gb421) (o := .cells #[.slice Ao55 x422000_1.length co55, .int .i64 x422001_1, .int .i64 x422002_1] 24 (0, 0)) (by (with_reducible repeat (first | refine blk_drewN ?_ _ | refine blk_drew ?_ | refine blk_alloc ?_ _)); exact BK421.out) hb)
               have n3_ := Aside0.mk (below_step (by repeat (first | (with_reducible first | exact HB.out | apply below_alloc | apply pw_below_drewN | apply below_drew1 | refine below_set ?_ GE421.out) | exact HB.out)) hb)
               have n4_ := Aside0.mk (hbox)
               have n5_ := Aside0.mk ((by rw [hg]; exact (below_size (by repeat (first | (with_reducible first | exact HB.out | apply below_alloc | apply pw_below_drewN | apply below_drew1 | refine below_set ?_ GE421.out) | exact HB.out))) : w.heap.size ≤ gb444))
               have n6_ := Aside0.mk ((by rw [hg]; exact (below_size (by repeat (first | (with_reducible first | exact HB.out | apply below_alloc | apply pw_below_drewN | apply below_drew1 | refine below_set ?_ GE421.out) | exact HB.out))) : w.heap.size ≤ gb444))
               have n7_ := Aside0.mk ((by rw [hg]; exact Nat.ne_of_lt (blk_lt (g := gb421) (o := .cells #[.slice Ao55 x422000_1.length co55, .int .i64 x422001_1, .int .i64 x422002_1] 24 (0, 0)) (by (with_reducible repeat (first | refine blk_drewN ?_ _ | refine blk_drew ?_ | refine blk_alloc ?_ _)); exact BK421.out)) : gb421 ≠ gb444))
               have n8_ := Aside0.mk ((by rw [hg]; exact Nat.ne_of_gt (blk_lt (g := gb421) (o := .cells #[.slice Ao55 x422000_1.length co55, .int .i64 x422001_1, .int .i64 x422002_1] 24 (0, 0)) (by (with_reducible repeat (first | refine blk_drewN ?_ _ | refine blk_drew ?_ | refine blk_alloc ?_ _)); exact BK421.out)) : gb444 ≠ gb421))
               clear HO_9
               clear HO_422000
               clear BK421
               clear HB
               have HO_9 := n0_
               have HO_422000 := n1_
               have BK421 := n2_
               have HB := n3_
               have BK444 := n4_
               have GW444 := n5_
               have GE444 := n6_
               have NB421_444 := n7_
               have NB444_421 := n8_
               clear n0_ n1_ n2_ n3_ n4_ n5_ n6_ n7_ n8_
               clear hb hbox hg
               refine hK.out _ _ ⟨(blk_cell BK421.out 0).trans rfl, (blk_cell BK421.out 1).trans rfl, (blk_cell BK421.out 2).trans rfl, ((HB.out.cell (World.block_lt_of_cell? w _ hw437_0)).trans hw437_0)⟩ (fun hHeld => ?_)
               clear hK K
               refine norm_ (a' := ?_) ?_ ?_
               rotate_left
               ·
                show Act.put _ (some 14) _ = _
                simp only [Act.put, sbA, sbB, sbC, i64_w, i32_w]
                rfl
               refine one_ (i := 5) (N := some 91) #[true, true, true, true, true, true, false, false, false, true, false, false] rfl rfl (one_of HT_.out (by kernel_rfl)) (by decide) (fun K hK => ?_)
               refine goes_ Try.func21 (by kernel_rfl) rfl #[.agg #[.slice Ao55 x422000_1.length co55, .int .i64 x422001_1, .int .i64 x422002_1], .int .i64 (rd l1 x10_1)] (by rfl) rfl rfl (by (try simp only [List.map_toArray, List.map_cons, List.map_nil]); first | done | rfl | (simp only [List.length_drop, List.length_take]; rfl)) ?_
               with_reducible refine (ring_Push.calls kj9 (fun k_ => ((some k_ ≠ (u9 : Value).ownBlock ∧ k_ ≠ gb421) ∧ k_ ≠ gb444)) _ _ x422000_1 x422001_1 x422002_1 (rd l1 x10_1) t438 t441 t442 t443 _ ?side1 A53.out).mono ?_
               (case side1 => exact HO_422000.out)
               rintro e w58 ⟨v439, rfl, ho0, hb⟩
               refine ⟨_, rfl, ?_⟩
               have n0_ := Aside0.mk (Kd.Q_below (by (with_reducible repeat (first | apply Kd.Q_alloc | apply Kd.Q_drewN | apply Kd.Q_drew)); exact HO_9.out) hb)
               have n1_ := Aside0.mk (Kd.V_below (by (with_reducible repeat (first | apply Kd.V_alloc | apply Kd.V_drewN | apply Kd.V_drew)); exact HO_422000.out) hb)
               have n2_ := Aside0.mk (Kd.V_lower (Kd.V_mono (ok' := fun k_ => some k_ ≠ (u9 : Value).ownBlock ∧ k_ ≠ gb421 ∧ k_ ≠ gb444) ho0 (fun k_ hk_ => ⟨Or.elim hk_ (fun hs_ => hs_.1.1) (fun hn_ => (Kd.fresh' (Kd.Q_lt (by (with_reducible repeat (first | apply Kd.Q_alloc | apply Kd.Q_drewN | apply Kd.Q_drew)); exact HO_9.out)) k_ hn_)), Or.elim hk_ (fun hs_ => hs_.1.2) (fun hn_ => (Kd.freshB (g := gb421) (o := .cells #[.slice Ao55 x422000_1.length co55, .int .i64 x422001_1, .int .i64 x422002_1] 24 (0, 0)) (by (with_reducible repeat (first | refine blk_drewN ?_ _ | refine blk_drew ?_ | refine blk_alloc ?_ _)); exact BK421.out) k_ hn_)), Or.elim hk_ (fun hs_ => hs_.2) (fun hn_ => (Kd.freshB (g := gb444) (o := .cells #[.slice none 0 0, .int .i64 0, .int .i64 0] 24 (0, 0)) (by (with_reducible repeat (first | refine blk_drewN ?_ _ | refine blk_drew ?_ | refine blk_alloc ?_ _)); exact BK444.out) k_ hn_))⟩)) (below_size (by repeat (first | (with_reducible first | exact HB.out | apply below_alloc | apply pw_below_drewN | apply below_drew1 | refine below_set ?_ GE421.out | refine below_set ?_ GE444.out) | exact HB.out))))
               have n3_ := Aside0.mk (blk_below (g := gb421) (o := .cells #[.slice Ao55 x422000_1.length co55, .int .i64 x422001_1, .int .i64 x422002_1] 24 (0, 0)) (by (with_reducible repeat (first | refine blk_drewN ?_ _ | refine blk_drew ?_ | refine blk_alloc ?_ _)); exact BK421.out) hb)
               have n4_ := Aside0.mk (blk_below (g := gb444) (o := .cells #[.slice none 0 0, .int .i64 0, .int .i64 0] 24 (0, 0)) (by (with_reducible repeat (first | refine blk_drewN ?_ _ | refine blk_drew ?_ | refine blk_alloc ?_ _)); exact BK444.out) hb)
               have n5_ := Aside0.mk (below_step (by repeat (first | (with_reducible first | exact HB.out | apply below_alloc | apply pw_below_drewN | apply below_drew1 | refine below_set ?_ GE421.out | refine below_set ?_ GE444.out) | exact HB.out)) hb)
               clear HO_9
               clear HO_422000
               clear BK421
               clear BK444
               clear HB
               have HO_9 := n0_
               have HO_422000 := n1_
               have HO440 := n2_
               have BK421 := n3_
               have BK444 := n4_
               have HB := n5_
               clear n0_ n1_ n2_ n3_ n4_ n5_
               (try clear hb)
               (try clear hb2)
               (try clear hk)
               (try clear hi)
               (try clear ho0)
               refine hK.out _ _ ⟨(blk_cell BK421.out 0).trans rfl, (blk_cell BK421.out 1).trans rfl, (blk_cell BK421.out 2).trans rfl, ((HB.out.cell (World.block_lt_of_cell? w _ hw437_0)).trans hw437_0)⟩ (fun hHeld => ?_)
               clear hK K
               refine norm_ (a' := ?_) ?_ ?_
               rotate_left
               ·
                show Act.put _ (some 91) _ = _
                simp only [Act.put, sbA, sbB, sbC, i64_w, i32_w]
                rfl
               refine pure_ (i := 6) (N := some 85) (v := ?_) (a' := ?_) #[true, true, true, true, true, true, true, false, false, true, false, false] rfl rfl (any_of HT_.out (by kernel_rfl)) (fun _ _ _ h => h) (Or.inl ⟨by rfl, ?_⟩) ?_ ?_
               rotate_left
               ·
                intro w'
                go_simp
                with_reducible rfl
               rotate_left
               ·
                simp only [Act.put, sbA, sbB, sbC, i64_w, i32_w]
                rfl
               refine pure_ (i := 7) (N := some 92) (v := ?_) (a' := ?_) #[true, true, true, true, true, true, true, true, false, true, false, false] rfl rfl (any_of HT_.out (by kernel_rfl)) (fun _ _ _ h => h) (Or.inl ⟨by rfl, ?_⟩) ?_ ?_
               rotate_left
               ·
                intro w'
                go_simp
                with_reducible rfl
               rotate_left
               ·
                simp only [Act.put, sbA, sbB, sbC, i64_w, i32_w]
                rfl
               refine pure_ (i := 8) (N := some 93) (v := ?_) (a' := ?_) #[true, true, true, true, true, true, true, true, true, true, false, false] rfl rfl (any_of HT_.out (by kernel_rfl)) (fun _ _ _ h => h) (Or.inl ⟨by rfl, ?_⟩) ?_ ?_
               rotate_left
               ·
                intro w'
                go_simp
                with_reducible rfl
               rotate_left
               ·
                simp only [Act.put, sbA, sbB, sbC, i64_w, i32_w]
                rfl
               exact norm_ (by simp only [putAll, Act.put, sbA, sbB, sbC]) (hCont (v439, gb444) _ ⟨hHeld, (by (with_reducible repeat (first | apply Kd.V_alloc | apply Kd.V_drewN | apply Kd.V_drew)); exact HO440.out), (by (with_reducible repeat (first | apply Kd.V_alloc | apply Kd.V_drewN | apply Kd.V_drew)); exact Kd.V_mono HO_422000.out (fun _ hk => ⟨hk.1.1, ⟨hk.1.2, hk.2⟩⟩)), (by (with_reducible repeat (first | apply Kd.Q_alloc | apply Kd.Q_drewN | apply Kd.Q_drew)); exact HO_9.out), (by (with_reducible repeat (first | refine blk_drewN ?_ _ | refine blk_drew ?_ | refine blk_alloc ?_ _)); exact BK421.out), (by (with_reducible repeat (first | refine blk_drewN ?_ _ | refine blk_drew ?_ | refine blk_alloc ?_ _)); exact BK444.out), GW444.out, GE444.out, NB421_444.out, NB444_421.out, (by repeat (first | (with_reducible first | exact HB.out | apply below_alloc | apply pw_below_drewN | apply below_drew1 | refine below_set ?_ GE421.out | refine below_set ?_ GE444.out) | exact HB.out))⟩)
             rintro ⟨v439, gb444⟩ w59 ⟨hS_, h0_, h1_, h2_, h3_, h4_, h5_, h6_, h7_, h8_, h9_⟩
             have n0_ : Aside0 (Kd.V (Kd.int .i64) 3 w59 w.heap.size (fun k_ => some k_ ≠ (u9 : Value).ownBlock ∧ k_ ≠ gb421 ∧ k_ ≠ gb444) v439 t438) := ⟨h0_⟩
             have n1_ : Aside0 (Kd.V (Kd.int .i64) 3 w59 w.heap.size (fun k_ => some k_ ≠ (u9 : Value).ownBlock ∧ k_ ≠ gb421 ∧ k_ ≠ gb444) (.slice Ao55 x422000_1.length co55) x422000_1) := ⟨h1_⟩
             have n2_ : Aside0 (Kd.Q (Kd.int .i64) 3 w59 w.heap.size (fun _ => True) u9 x9_1) := ⟨h2_⟩
             have n3_ : Aside0 (w59.heap[gb421]? = some (.cells #[.slice Ao55 x422000_1.length co55, .int .i64 x422001_1, .int .i64 x422002_1] 24 (0, 0))) := ⟨h3_⟩
             have n4_ : Aside0 (w59.heap[gb444]? = some (.cells #[.slice none 0 0, .int .i64 0, .int .i64 0] 24 (0, 0))) := ⟨h4_⟩
             have n5_ : Aside0 (w.heap.size ≤ gb444) := ⟨h5_⟩
             have n6_ : Aside0 (w.heap.size ≤ gb444) := ⟨h6_⟩
             have n7_ : Aside0 (gb421 ≠ gb444) := ⟨h7_⟩
             have n8_ : Aside0 (gb444 ≠ gb421) := ⟨h8_⟩
             have n9_ : Aside0 (Below w.heap.size w w59) := ⟨h9_⟩
             clear HO_9
             clear HO_422000
             clear BK421
             clear HB
             clear h0_ h1_ h2_ h3_ h4_ h5_ h6_ h7_ h8_ h9_
             have HO440 := n0_
             have HO_422000 := n1_
             have HO_9 := n2_
             have BK421 := n3_
             have BK444 := n4_
             have GW444 := n5_
             have GE444 := n6_
             have NB421_444 := n7_
             have NB444_421 := n8_
             have HB := n9_
             clear n0_ n1_ n2_ n3_ n4_ n5_ n6_ n7_ n8_ n9_
             have hHeld : w59.cell? ⟨gb421, 0, none⟩ = some (.slice Ao55 x422000_1.length co55) ∧ w59.cell? ⟨gb421, 1, none⟩ = some (.int .i64 x422001_1) ∧ w59.cell? ⟨gb421, 2, none⟩ = some (.int .i64 x422002_1) ∧ w59.cell? (ad437.add (x10_1).toNat) = some (.int .i64 (rd l1 x10_1)) := hS_
             obtain ⟨Ao60, co60, eo60⟩ := Kd.V_slice HO440.out
             (first | subst eo60 | (injection eo60 with f1_ f2_ f3_; have f4_ := f1_.symm; have f5_ := f3_.symm; clear f1_ f2_ f3_; subst f4_; subst f5_))
             refine norm_ (a' := ?_) ?_ ?_
             rotate_left
             ·
              simp only [putAll, Act.put, sbA, sbB, sbC]
              rfl
             refine one_ (i := 10) (N := none) #[true, true, true, true, true, true, true, true, true, true, true, false] rfl rfl (one_of HT_.out (by kernel_rfl)) (by decide) (fun K hK => ?_)
             have hs61 : w59.cell? ⟨gb444, 0, none⟩ = some (.slice none 0 0) := (blk_cell BK444.out 0).trans rfl
             have hfs61 := blk_frozen BK444.out 0
             have hns61_0 := NB421_444.out
             have hms61_0 := NB444_421.out
             have hs62 : w59.cell? ⟨gb444, 1, none⟩ = some (.int .i64 0) := (blk_cell BK444.out 1).trans rfl
             have hfs62 := blk_frozen BK444.out 1
             have hns62_0 := NB421_444.out
             have hms62_0 := NB444_421.out
             have hs63 : w59.cell? ⟨gb444, 2, none⟩ = some (.int .i64 0) := (blk_cell BK444.out 2).trans rfl
             have hfs63 := blk_frozen BK444.out 2
             have hns63_0 := NB421_444.out
             have hms63_0 := NB444_421.out
             refine skip_ (w1 := ?_) (by rfl) rfl ?_ ?_
             rotate_left
             ·
              go_simp
              rfl
             refine hK.out _ _ ⟨((cell_far (p := ⟨gb444, _, none⟩) NB421_444.out _).trans (((cell_far (p := ⟨gb444, _, none⟩) NB421_444.out _).trans (((cell_far (p := ⟨gb444, _, none⟩) NB421_444.out _).trans (hHeld.1)))))), ((cell_far (p := ⟨gb444, _, none⟩) NB421_444.out _).trans (((cell_far (p := ⟨gb444, _, none⟩) NB421_444.out _).trans (((cell_far (p := ⟨gb444, _, none⟩) NB421_444.out _).trans (hHeld.2.1)))))), ((cell_far (p := ⟨gb444, _, none⟩) NB421_444.out _).trans (((cell_far (p := ⟨gb444, _, none⟩) NB421_444.out _).trans (((cell_far (p := ⟨gb444, _, none⟩) NB421_444.out _).trans (hHeld.2.2.1)))))), ((cell_far (p := ⟨gb444, _, none⟩) (by first | exact Nat.ne_of_lt (Nat.lt_of_lt_of_le (by have := World.block_lt_of_cell? _ _ hw437_0; first | rwa [add_block] at this | exact this) GW444.out) | (rw [add_block]; exact Nat.ne_of_lt (Nat.lt_of_lt_of_le (by have := World.block_lt_of_cell? _ _ hw437_0; first | rwa [add_block] at this | exact this) GW444.out)) | (show (Addr.add _ _).block ≠ _; rw [add_block]; exact Nat.ne_of_lt (Nat.lt_of_lt_of_le (by have := World.block_lt_of_cell? _ _ hw437_0; first | rwa [add_block] at this | exact this) GW444.out)) | (dsimp only; exact Nat.ne_of_lt (Nat.lt_of_lt_of_le (by have := World.block_lt_of_cell? _ _ hw437_0; first | rwa [add_block] at this | exact this) GW444.out))) _).trans (((cell_far (p := ⟨gb444, _, none⟩) (by first | exact Nat.ne_of_lt (Nat.lt_of_lt_of_le (by have := World.block_lt_of_cell? _ _ hw437_0; first | rwa [add_block] at this | exact this) GW444.out) | (rw [add_block]; exact Nat.ne_of_lt (Nat.lt_of_lt_of_le (by have := World.block_lt_of_cell? _ _ hw437_0; first | rwa [add_block] at this | exact this) GW444.out)) | (show (Addr.add _ _).block ≠ _; rw [add_block]; exact Nat.ne_of_lt (Nat.lt_of_lt_of_le (by have := World.block_lt_of_cell? _ _ hw437_0; first | rwa [add_block] at this | exact this) GW444.out)) | (dsimp only; exact Nat.ne_of_lt (Nat.lt_of_lt_of_le (by have := World.block_lt_of_cell? _ _ hw437_0; first | rwa [add_block] at this | exact this) GW444.out))) _).trans (((cell_far (p := ⟨gb444, _, none⟩) (by first | exact Nat.ne_of_lt (Nat.lt_of_lt_of_le (by have := World.block_lt_of_cell? _ _ hw437_0; first | rwa [add_block] at this | exact this) GW444.out) | (rw [add_block]; exact Nat.ne_of_lt (Nat.lt_of_lt_of_le (by have := World.block_lt_of_cell? _ _ hw437_0; first | rwa [add_block] at this | exact this) GW444.out)) | (show (Addr.add _ _).block ≠ _; rw [add_block]; exact Nat.ne_of_lt (Nat.lt_of_lt_of_le (by have := World.block_lt_of_cell? _ _ hw437_0; first | rwa [add_block] at this | exact this) GW444.out)) | (dsimp only; exact Nat.ne_of_lt (Nat.lt_of_lt_of_le (by have := World.block_lt_of_cell? _ _ hw437_0; first | rwa [add_block] at this | exact this) GW444.out))) _).trans (hHeld.2.2.2))))))⟩ (fun hHeld => ?_)
             clear hK K
             refine pure_ (i := 11) (N := some 15) (v := ?_) (a' := ?_) #[true, true, true, true, true, true, true, true, true, true, true, true] rfl rfl (any_of HT_.out (by kernel_rfl)) (fun _ _ _ h => h) (Or.inl ⟨by rfl, ?_⟩) ?_ ?_
             rotate_left
             ·
              intro w'
              go_simp
              with_reducible rfl
             rotate_left
             ·
              simp only [Act.put, sbA, sbB, sbC, i64_w, i32_w]
              rfl
             refine done_ (done_of HT_.out (by kernel_rfl)) ?_
             obtain ⟨Ao64, co64, eo64, _⟩ := Kd.Q_slice HO_9.out
             subst eo64
             try go_wp2
             go_ret
             exact ⟨by first | rfl | (rw [HR_.out] <;> rfl) | (simp [errW_none, errW_some] <;> rfl) | (simp [*, errW_none, errW_some] <;> rfl), by repeat (first | (with_reducible first | exact HB.out | apply below_alloc | apply pw_below_drewN | apply below_drew1 | refine below_set ?_ GE421.out | refine below_set ?_ GE444.out) | exact HB.out)⟩
            ·
             rw [if_neg c54] at H
             have c54b0 : ((t443 == 0) != (decide ((x9_1.length : Int) < a0))) = false := by simpa using c54
             (try (have c54b1 : decide ((t443 == 0) = (decide ((x9_1.length : Int) < a0))) = true := by simpa using c54))
             (try (have c54b2 : ((t443 == 0) == (decide ((x9_1.length : Int) < a0))) = true := by simpa using c54))
             clear c54
             have HC65 := Aside0.mk H
             clear H
             have p423 : 0 ≤ (x10_1 : Int) := of_decide_eq_true (by first | (with_reducible assumption) | assumption)
             have q423 : x10_1 < (l2.length : Int) := of_decide_eq_true (by first | (with_reducible assumption) | assumption)
             obtain ⟨ad423, e423, hx423_0⟩ := Kd.at_bool HR2.out x10_1 p423 q423
             (try rw [← Nbq17.out] at hx423_0)
             cases e423
             replace hx423_0 := (HB.out.cell (World.block_lt_of_cell? w _ hx423_0)).trans hx423_0
             replace p423 := eq_true p423
             replace q423 := eq_true q423
             obtain ⟨Ao66, co66, eo66⟩ := Kd.V_slice HO_422000.out
             subst eo66
             try go_wp2
             have n0_ := Aside0.mk (Kd.Q_drew HO_9.out)
             have n1_ := Aside0.mk (Kd.V_drew HO_422000.out)
             have n2_ := Aside0.mk (blk_drew BK421.out)
             have n3_ := Aside0.mk (below_drew1 HB.out)
             clear HO_9
             clear HO_422000
             clear BK421
             clear HB
             have HO_9 := n0_
             have HO_422000 := n1_
             have BK421 := n2_
             have HB := n3_
             clear n0_ n1_ n2_ n3_
             have p437 : 0 ≤ (x10_1 : Int) := of_decide_eq_true (by first | (with_reducible assumption) | assumption)
             have q437 : x10_1 < (l1.length : Int) := of_decide_eq_true (by first | (with_reducible assumption) | assumption)
             obtain ⟨ad437, e437, hx437_0⟩ := Kd.at_int HR1.out x10_1 p437 q437
             have hw437_0 := hx437_0
             cases e437
             replace hx437_0 := (HB.out.cell (World.block_lt_of_cell? w _ hx437_0)).trans hx437_0
             replace p437 := eq_true p437
             replace q437 := eq_true q437
             refine start_ (n := 12) (S := fun w' => w'.cell? ⟨gb421, 0, none⟩ = some (.slice Ao66 x422000_1.length co66) ∧ w'.cell? ⟨gb421, 1, none⟩ = some (.int .i64 x422001_1) ∧ w'.cell? ⟨gb421, 2, none⟩ = some (.int .i64 x422002_1) ∧ w'.cell? (ad437.add (x10_1).toNat) = some (.int .i64 (rd l1 x10_1))) (ds := []) #[false, false, false, false, false, false, false, false, false, false, false, false] (by kernel_rfl) rfl rfl ⟨(blk_cell BK421.out 0).trans rfl, (blk_cell BK421.out 1).trans rfl, (blk_cell BK421.out 2).trans rfl, ((HB.out.cell (World.block_lt_of_cell? w _ hw437_0)).trans hw437_0)⟩ (fun hHeld => ?_); refine with_tabW remontoirlaw03_RingRows.tab15 remontoirlaw03_RingRows.bits15 (fun HT_ HW_ => ?_)
             generalize wc.drew = w67 at HO_9 HO_422000 BK421 HB hx437_0 hHeld ⊢
             refine pure_ (i := 1) (N := some 87) (v := ?_) (a' := ?_) #[false, true, false, false, false, false, false, false, false, false, false, false] rfl rfl (any_of HT_.out (by kernel_rfl)) (fun _ _ _ h => h) (Or.inl ⟨by rfl, ?_⟩) ?_ ?_
             rotate_left
             ·
              intro w'
              go_simp
              with_reducible rfl
             rotate_left
             ·
              simp only [Act.put, sbA, sbB, sbC, i64_w, i32_w]
              rfl
             refine pure_ (i := 2) (N := some 88) (v := ?_) (a' := ?_) #[false, true, true, false, false, false, false, false, false, false, false, false] rfl rfl (any_of HT_.out (by kernel_rfl)) (fun _ _ _ h => h) (Or.inl ⟨by rfl, ?_⟩) ?_ ?_
             rotate_left
             ·
              intro w'
              go_simp
              with_reducible rfl
             rotate_left
             ·
              simp only [Act.put, sbA, sbB, sbC, i64_w, i32_w]
              rfl
             refine pure_ (i := 3) (N := some 89) (v := ?_) (a' := ?_) #[false, true, true, true, false, false, false, false, false, false, false, false] rfl rfl (any_of HT_.out (by kernel_rfl)) (fun _ _ _ h => h) (Or.inl ⟨by rfl, ?_⟩) ?_ ?_
             rotate_left
             ·
              intro w'
              go_simp
              with_reducible rfl
             rotate_left
             ·
              simp only [Act.put, sbA, sbB, sbC, i64_w, i32_w]
              rfl
             refine take_ (i := 0) (N := some 86) (v := ?_) (a' := ?_) #[true, true, true, true, false, false, false, false, false, false, false, false] rfl rfl (take_ofW HT_.out HW_.out (by kernel_rfl)) (fun _ _ _ h => h) (Or.inl ⟨by rfl, ?_⟩) hHeld ?_ ?_
             rotate_left
             ·
              rintro w' ⟨s0, s1, s2, s3⟩
              go_simp
              with_reducible rfl
             rotate_left
             ·
              simp only [Act.put, sbA, sbB, sbC, i64_w, i32_w]
              rfl
             refine take_ (i := 4) (N := some 90) (v := ?_) (a' := ?_) #[true, true, true, true, true, false, false, false, false, false, false, false] rfl rfl (take_ofW HT_.out HW_.out (by kernel_rfl)) (fun _ _ _ h => h) (Or.inl ⟨by rfl, ?_⟩) hHeld ?_ ?_
             rotate_left
             ·
              rintro w' ⟨s0, s1, s2, s3⟩
              go_simp
              with_reducible rfl
             rotate_left
             ·
              simp only [Act.put, sbA, sbB, sbC, i64_w, i32_w]
              rfl
             refine join_ (σ := Value × Nat) 2 #[true, true, true, true, true, true, true, true, true, true, false, false] (fun s_ => [(91, .tuple #[.agg #[s_.1, .int .i64 t441, .int .i64 t442], .int .i64 t443]), (14, .pointer (some ⟨s_.2, 0, none⟩)), (85, .tuple #[.agg #[s_.1, .int .i64 t441, .int .i64 t442], .int .i64 t443]), (92, .agg #[s_.1, .int .i64 t441, .int .i64 t442]), (93, .int .i64 t443)]) (fun s_ w' => (w'.cell? ⟨gb421, 0, none⟩ = some (.slice Ao66 x422000_1.length co66) ∧ w'.cell? ⟨gb421, 1, none⟩ = some (.int .i64 x422001_1) ∧ w'.cell? ⟨gb421, 2, none⟩ = some (.int .i64 x422002_1) ∧ w'.cell? (ad437.add (x10_1).toNat) = some (.int .i64 (rd l1 x10_1))) ∧ (Kd.V (Kd.int .i64) 3 w' w.heap.size (fun k_ => some k_ ≠ (u9 : Value).ownBlock ∧ k_ ≠ gb421 ∧ k_ ≠ s_.2) s_.1 t438) ∧ (Kd.V (Kd.int .i64) 3 w' w.heap.size (fun k_ => some k_ ≠ (u9 : Value).ownBlock ∧ k_ ≠ gb421 ∧ k_ ≠ s_.2) (.slice Ao66 x422000_1.length co66) x422000_1) ∧ (Kd.Q (Kd.int .i64) 3 w' w.heap.size (fun _ => True) u9 x9_1) ∧ (w'.heap[gb421]? = some (.cells #[.slice Ao66 x422000_1.length co66, .int .i64 x422001_1, .int .i64 x422002_1] 24 (0, 0))) ∧ (w'.heap[s_.2]? = some (.cells #[.slice none 0 0, .int .i64 0, .int .i64 0] 24 (0, 0))) ∧ (w.heap.size ≤ s_.2) ∧ (w.heap.size ≤ s_.2) ∧ (gb421 ≠ s_.2) ∧ (s_.2 ≠ gb421) ∧ (Below w.heap.size w w')) ?_ ?_
             rotate_left
             ·
              intro hCont
              refine two_ (i := 5) (j := 9) (Ni := some 91) (Nj := some 14) #[true, true, true, true, true, true, false, false, false, false, false, false] #[true, true, true, true, true, false, false, false, false, true, false, false] rfl rfl rfl rfl (two_of HT_.out (by kernel_rfl)) (by decide) (by decide) (fun K hK => ?_) (fun K hK => ?_)
              ·
               skip
               refine goes_ Try.func21 (by kernel_rfl) rfl #[.agg #[.slice Ao66 x422000_1.length co66, .int .i64 x422001_1, .int .i64 x422002_1], .int .i64 (rd l1 x10_1)] (by rfl) rfl rfl (by (try simp only [List.map_toArray, List.map_cons, List.map_nil]); first | done | rfl | (simp only [List.length_drop, List.length_take]; rfl)) ?_
               with_reducible refine (ring_Push.calls kj9 (fun k_ => (some k_ ≠ (u9 : Value).ownBlock ∧ k_ ≠ gb421)) _ _ x422000_1 x422001_1 x422002_1 (rd l1 x10_1) t438 t441 t442 t443 _ ?side1 A53.out).mono ?_
               (case side1 => exact HO_422000.out)
               rintro e w68 ⟨v439, rfl, ho0, hb⟩
               refine ⟨_, rfl, ?_⟩
               have n0_ := Aside0.mk (Kd.Q_below (by (with_reducible repeat (first | apply Kd.Q_alloc | apply Kd.Q_drewN | apply Kd.Q_drew)); exact HO_9.out) hb)
               have n1_ := Aside0.mk (Kd.V_below (by (with_reducible repeat (first | apply Kd.V_alloc | apply Kd.V_drewN | apply Kd.V_drew)); exact HO_422000.out) hb)
               have n2_ := Aside0.mk (Kd.V_lower (Kd.V_mono (ok' := fun k_ => some k_ ≠ (u9 : Value).ownBlock ∧ k_ ≠ gb421) ho0 (fun k_ hk_ => ⟨Or.elim hk_ (fun hs_ => hs_.1) (fun hn_ => (Kd.fresh' (Kd.Q_lt (by (with_reducible repeat (first | apply Kd.Q_alloc | apply Kd.Q_drewN | apply Kd.Q_drew)); exact HO_9.out)) k_ hn_)), Or.elim hk_ (fun hs_ => hs_.2) (fun hn_ => (Kd.freshB (g := gb421) (o := .cells #[.slice Ao66 x422000_1.length co66, .int .i64 x422001_1, .int .i64 x422002_1] 24 (0, 0)) (by (with_reducible repeat (first | refine blk_drewN ?_ _ | refine blk_drew ?_ | refine blk_alloc ?_ _)); exact BK421.out) k_ hn_))⟩)) (below_size (by repeat (first | (with_reducible first | exact HB.out | apply below_alloc | apply pw_below_drewN | apply below_drew1 | refine below_set ?_ GE421.out) | exact HB.out))))
               have n3_ := Aside0.mk (blk_below (g := gb421) (o := .cells #[.slice Ao66 x422000_1.length co66, .int .i64 x422001_1, .int .i64 x422002_1] 24 (0, 0)) (by (with_reducible repeat (first | refine blk_drewN ?_ _ | refine blk_drew ?_ | refine blk_alloc ?_ _)); exact BK421.out) hb)
               have n4_ := Aside0.mk (below_step (by repeat (first | (with_reducible first | exact HB.out | apply below_alloc | apply pw_below_drewN | apply below_drew1 | refine below_set ?_ GE421.out) | exact HB.out)) hb)
               clear HO_9
               clear HO_422000
               clear BK421
               clear HB
               have HO_9 := n0_
               have HO_422000 := n1_
               have HO440 := n2_
               have BK421 := n3_
               have HB := n4_
               clear n0_ n1_ n2_ n3_ n4_
               (try clear hb)
               (try clear hb2)
               (try clear hk)
               (try clear hi)
               (try clear ho0)
               refine hK.out _ _ ⟨(blk_cell BK421.out 0).trans rfl, (blk_cell BK421.out 1).trans rfl, (blk_cell BK421.out 2).trans rfl, ((HB.out.cell (World.block_lt_of_cell? w _ hw437_0)).trans hw437_0)⟩ (fun hHeld => ?_)
               clear hK K
               refine norm_ (a' := ?_) ?_ ?_
               rotate_left
               ·
                show Act.put _ (some 91) _ = _
                simp only [Act.put, sbA, sbB, sbC, i64_w, i32_w]
                rfl
               refine pure_ (i := 6) (N := some 85) (v := ?_) (a' := ?_) #[true, true, true, true, true, true, true, false, false, false, false, false] rfl rfl (any_of HT_.out (by kernel_rfl)) (fun _ _ _ h => h) (Or.inl ⟨by rfl, ?_⟩) ?_ ?_
               rotate_left
               ·
                intro w'
                go_simp
                with_reducible rfl
               rotate_left
               ·
                simp only [Act.put, sbA, sbB, sbC, i64_w, i32_w]
                rfl
               refine pure_ (i := 7) (N := some 92) (v := ?_) (a' := ?_) #[true, true, true, true, true, true, true, true, false, false, false, false] rfl rfl (any_of HT_.out (by kernel_rfl)) (fun _ _ _ h => h) (Or.inl ⟨by rfl, ?_⟩) ?_ ?_
               rotate_left
               ·
                intro w'
                go_simp
                with_reducible rfl
               rotate_left
               ·
                simp only [Act.put, sbA, sbB, sbC, i64_w, i32_w]
                rfl
               refine pure_ (i := 8) (N := some 93) (v := ?_) (a' := ?_) #[true, true, true, true, true, true, true, true, true, false, false, false] rfl rfl (any_of HT_.out (by kernel_rfl)) (fun _ _ _ h => h) (Or.inl ⟨by rfl, ?_⟩) ?_ ?_
               rotate_left
               ·
                intro w'
                go_simp
                with_reducible rfl
               rotate_left
               ·
                simp only [Act.put, sbA, sbB, sbC, i64_w, i32_w]
                rfl
               refine one_ (i := 9) (N := some 14) #[true, true, true, true, true, true, true, true, true, true, false, false] rfl rfl (one_of HT_.out (by kernel_rfl)) (by decide) (fun K hK => ?_)
               refine box_step ?hg (N := 14) ?hd (cs := #[.slice none 0 0, .int .i64 0, .int .i64 0]) (t := 24) ?hr ?_; (case hd => rfl); (case hg => rfl); (case hr => first | (go_simp; done) | (go_simp; rfl))
               intro gb444 hg w69 hbox hb
               have n0_ := Aside0.mk (Kd.Q_below (by (with_reducible repeat (first | apply Kd.Q_alloc | apply Kd.Q_drewN | apply Kd.Q_drew)); exact HO_9.out) hb)
               have n1_ := Aside0.mk (Kd.V_below (Kd.V_elderB (by (with_reducible repeat (first | apply Kd.V_alloc | apply Kd.V_drewN | apply Kd.V_drew)); exact HO_422000.out) gb444 (Nat.le_of_eq hg.symm)) hb)
               have n2_ := Aside0.mk (Kd.V_below (Kd.V_elderB (by (with_reducible repeat (first | apply Kd.V_alloc | apply Kd.V_drewN | apply Kd.V_drew)); exact HO440.out) gb444 (Nat.le_of_eq hg.symm)) hb)
               have n3_ := Aside0.mk (blk_below (g := gb421) (o := .cells #[.slice Ao66 x422000_1.length co66, .int .i64 x422001_1, .int .i64 x422002_1] 24 (0, 0)) (by (with_reducible repeat (first | refine blk_drewN ?_ _ | refine blk_drew ?_ | refine blk_alloc ?_ _)); exact BK421.out) hb)
               have n4_ := Aside0.mk (below_step (by repeat (first | (with_reducible first | exact HB.out | apply below_alloc | apply pw_below_drewN | apply below_drew1 | refine below_set ?_ GE421.out) | exact HB.out)) hb)
               have n5_ := Aside0.mk (hbox)
               have n6_ := Aside0.mk ((by rw [hg]; exact (below_size (by repeat (first | (with_reducible first | exact HB.out | apply below_alloc | apply pw_below_drewN | apply below_drew1 | refine below_set ?_ GE421.out) | exact HB.out))) : w.heap.size ≤ gb444))
               have n7_ := Aside0.mk ((by rw [hg]; exact (below_size (by repeat (first | (with_reducible first | exact HB.out | apply below_alloc | apply pw_below_drewN | apply below_drew1 | refine below_set ?_ GE421.out) | exact HB.out))) : w.heap.size ≤ gb444))
               have n8_ := Aside0.mk ((by rw [hg]; exact Nat.ne_of_lt (blk_lt (g := gb421) (o := .cells #[.slice Ao66 x422000_1.length co66, .int .i64 x422001_1, .int .i64 x422002_1] 24 (0, 0)) (by (with_reducible repeat (first | refine blk_drewN ?_ _ | refine blk_drew ?_ | refine blk_alloc ?_ _)); exact BK421.out)) : gb421 ≠ gb444))
               have n9_ := Aside0.mk ((by rw [hg]; exact Nat.ne_of_gt (blk_lt (g := gb421) (o := .cells #[.slice Ao66 x422000_1.length co66, .int .i64 x422001_1, .int .i64 x422002_1] 24 (0, 0)) (by (with_reducible repeat (first | refine blk_drewN ?_ _ | refine blk_drew ?_ | refine blk_alloc ?_ _)); exact BK421.out)) : gb444 ≠ gb421))
               clear HO_9
               clear HO_422000
               clear HO440
               clear BK421
               clear HB
               have HO_9 := n0_
               have HO_422000 := n1_
               have HO440 := n2_
               have BK421 := n3_
               have HB := n4_
               have BK444 := n5_
               have GW444 := n6_
               have GE444 := n7_
               have NB421_444 := n8_
               have NB444_421 := n9_
               clear n0_ n1_ n2_ n3_ n4_ n5_ n6_ n7_ n8_ n9_
               clear hb hbox hg
               refine hK.out _ _ ⟨(blk_cell BK421.out 0).trans rfl, (blk_cell BK421.out 1).trans rfl, (blk_cell BK421.out 2).trans rfl, ((HB.out.cell (World.block_lt_of_cell? w _ hw437_0)).trans hw437_0)⟩ (fun hHeld => ?_)
               clear hK K
               refine norm_ (a' := ?_) ?_ ?_
               rotate_left
               ·
                show Act.put _ (some 14) _ = _
                simp only [Act.put, sbA, sbB, sbC, i64_w, i32_w]
                rfl
               exact norm_ (by simp only [putAll, Act.put, sbA, sbB, sbC]) (hCont (v439, gb444) _ ⟨hHeld, (by (with_reducible repeat (first | apply Kd.V_alloc | apply Kd.V_drewN | apply Kd.V_drew)); exact Kd.V_mono HO440.out (fun _ hk => ⟨hk.1.1, ⟨hk.1.2, hk.2⟩⟩)), (by (with_reducible repeat (first | apply Kd.V_alloc | apply Kd.V_drewN | apply Kd.V_drew)); exact Kd.V_mono HO_422000.out (fun _ hk => ⟨hk.1.1, ⟨hk.1.2, hk.2⟩⟩)), (by (with_reducible repeat (first | apply Kd.Q_alloc | apply Kd.Q_drewN | apply Kd.Q_drew)); exact HO_9.out), (by (with_reducible repeat (first | refine blk_drewN ?_ _ | refine blk_drew ?_ | refine blk_alloc ?_ _)); exact BK421.out), (by (with_reducible repeat (first | refine blk_drewN ?_ _ | refine blk_drew ?_ | refine blk_alloc ?_ _)); exact BK444.out), GW444.out, GE444.out, NB421_444.out, NB444_421.out, (by repeat (first | (with_reducible first | exact HB.out | apply below_alloc | apply pw_below_drewN | apply below_drew1 | refine below_set ?_ GE421.out | refine below_set ?_ GE444.out) | exact HB.out))⟩)
              ·
               skip
               refine box_step ?hg (N := 14) ?hd (cs := #[.slice none 0 0, .int .i64 0, .int .i64 0]) (t := 24) ?hr ?_; (case hd => rfl); (case hg => rfl); (case hr => first | (go_simp; done) | (go_simp; rfl))
               intro gb444 hg w68 hbox hb
               have n0_ := Aside0.mk (Kd.Q_below (by (with_reducible repeat (first | apply Kd.Q_alloc | apply Kd.Q_drewN | apply Kd.Q_drew)); exact HO_9.out) hb)
               have n1_ := Aside0.mk (Kd.V_below (Kd.V_elderB (by (with_reducible repeat (first | apply Kd.V_alloc | apply Kd.V_drewN | apply Kd.V_drew)); exact HO_422000.out) gb444 (Nat.le_of_eq hg.symm)) hb)
               have n2_ := Aside0.mk (blk_below (g := gb421) (o := .cells #[.slice Ao66 x422000_1.length co66, .int .i64 x422001_1, .int .i64 x422002_1] 24 (0, 0)) (by (with_reducible repeat (first | refine blk_drewN ?_ _ | refine blk_drew ?_ | refine blk_alloc ?_ _)); exact BK421.out) hb)
               have n3_ := Aside0.mk (below_step (by repeat (first | (with_reducible first | exact HB.out | apply below_alloc | apply pw_below_drewN | apply below_drew1 | refine below_set ?_ GE421.out) | exact HB.out)) hb)
               have n4_ := Aside0.mk (hbox)
               have n5_ := Aside0.mk ((by rw [hg]; exact (below_size (by repeat (first | (with_reducible first | exact HB.out | apply below_alloc | apply pw_below_drewN | apply below_drew1 | refine below_set ?_ GE421.out) | exact HB.out))) : w.heap.size ≤ gb444))
               have n6_ := Aside0.mk ((by rw [hg]; exact (below_size (by repeat (first | (with_reducible first | exact HB.out | apply below_alloc | apply pw_below_drewN | apply below_drew1 | refine below_set ?_ GE421.out) | exact HB.out))) : w.heap.size ≤ gb444))
               have n7_ := Aside0.mk ((by rw [hg]; exact Nat.ne_of_lt (blk_lt (g := gb421) (o := .cells #[.slice Ao66 x422000_1.length co66, .int .i64 x422001_1, .int .i64 x422002_1] 24 (0, 0)) (by (with_reducible repeat (first | refine blk_drewN ?_ _ | refine blk_drew ?_ | refine blk_alloc ?_ _)); exact BK421.out)) : gb421 ≠ gb444))
               have n8_ := Aside0.mk ((by rw [hg]; exact Nat.ne_of_gt (blk_lt (g := gb421) (o := .cells #[.slice Ao66 x422000_1.length co66, .int .i64 x422001_1, .int .i64 x422002_1] 24 (0, 0)) (by (with_reducible repeat (first | refine blk_drewN ?_ _ | refine blk_drew ?_ | refine blk_alloc ?_ _)); exact BK421.out)) : gb444 ≠ gb421))
               clear HO_9
               clear HO_422000
               clear BK421
               clear HB
               have HO_9 := n0_
               have HO_422000 := n1_
               have BK421 := n2_
               have HB := n3_
               have BK444 := n4_
               have GW444 := n5_
               have GE444 := n6_
               have NB421_444 := n7_
               have NB444_421 := n8_
               clear n0_ n1_ n2_ n3_ n4_ n5_ n6_ n7_ n8_
               clear hb hbox hg
               refine hK.out _ _ ⟨(blk_cell BK421.out 0).trans rfl, (blk_cell BK421.out 1).trans rfl, (blk_cell BK421.out 2).trans rfl, ((HB.out.cell (World.block_lt_of_cell? w _ hw437_0)).trans hw437_0)⟩ (fun hHeld => ?_)
               clear hK K
               refine norm_ (a' := ?_) ?_ ?_
               rotate_left
               ·
                show Act.put _ (some 14) _ = _
                simp only [Act.put, sbA, sbB, sbC, i64_w, i32_w]
                rfl
               refine one_ (i := 5) (N := some 91) #[true, true, true, true, true, true, false, false, false, true, false, false] rfl rfl (one_of HT_.out (by kernel_rfl)) (by decide) (fun K hK => ?_)
               refine goes_ Try.func21 (by kernel_rfl) rfl #[.agg #[.slice Ao66 x422000_1.length co66, .int .i64 x422001_1, .int .i64 x422002_1], .int .i64 (rd l1 x10_1)] (by rfl) rfl rfl (by (try simp only [List.map_toArray, List.map_cons, List.map_nil]); first | done | rfl | (simp only [List.length_drop, List.length_take]; rfl)) ?_
               with_reducible refine (ring_Push.calls kj9 (fun k_ => ((some k_ ≠ (u9 : Value).ownBlock ∧ k_ ≠ gb421) ∧ k_ ≠ gb444)) _ _ x422000_1 x422001_1 x422002_1 (rd l1 x10_1) t438 t441 t442 t443 _ ?side1 A53.out).mono ?_
               (case side1 => exact HO_422000.out)
               rintro e w69 ⟨v439, rfl, ho0, hb⟩
               refine ⟨_, rfl, ?_⟩
               have n0_ := Aside0.mk (Kd.Q_below (by (with_reducible repeat (first | apply Kd.Q_alloc | apply Kd.Q_drewN | apply Kd.Q_drew)); exact HO_9.out) hb)
               have n1_ := Aside0.mk (Kd.V_below (by (with_reducible repeat (first | apply Kd.V_alloc | apply Kd.V_drewN | apply Kd.V_drew)); exact HO_422000.out) hb)
               have n2_ := Aside0.mk (Kd.V_lower (Kd.V_mono (ok' := fun k_ => some k_ ≠ (u9 : Value).ownBlock ∧ k_ ≠ gb421 ∧ k_ ≠ gb444) ho0 (fun k_ hk_ => ⟨Or.elim hk_ (fun hs_ => hs_.1.1) (fun hn_ => (Kd.fresh' (Kd.Q_lt (by (with_reducible repeat (first | apply Kd.Q_alloc | apply Kd.Q_drewN | apply Kd.Q_drew)); exact HO_9.out)) k_ hn_)), Or.elim hk_ (fun hs_ => hs_.1.2) (fun hn_ => (Kd.freshB (g := gb421) (o := .cells #[.slice Ao66 x422000_1.length co66, .int .i64 x422001_1, .int .i64 x422002_1] 24 (0, 0)) (by (with_reducible repeat (first | refine blk_drewN ?_ _ | refine blk_drew ?_ | refine blk_alloc ?_ _)); exact BK421.out) k_ hn_)), Or.elim hk_ (fun hs_ => hs_.2) (fun hn_ => (Kd.freshB (g := gb444) (o := .cells #[.slice none 0 0, .int .i64 0, .int .i64 0] 24 (0, 0)) (by (with_reducible repeat (first | refine blk_drewN ?_ _ | refine blk_drew ?_ | refine blk_alloc ?_ _)); exact BK444.out) k_ hn_))⟩)) (below_size (by repeat (first | (with_reducible first | exact HB.out | apply below_alloc | apply pw_below_drewN | apply below_drew1 | refine below_set ?_ GE421.out | refine below_set ?_ GE444.out) | exact HB.out))))
               have n3_ := Aside0.mk (blk_below (g := gb421) (o := .cells #[.slice Ao66 x422000_1.length co66, .int .i64 x422001_1, .int .i64 x422002_1] 24 (0, 0)) (by (with_reducible repeat (first | refine blk_drewN ?_ _ | refine blk_drew ?_ | refine blk_alloc ?_ _)); exact BK421.out) hb)
               have n4_ := Aside0.mk (blk_below (g := gb444) (o := .cells #[.slice none 0 0, .int .i64 0, .int .i64 0] 24 (0, 0)) (by (with_reducible repeat (first | refine blk_drewN ?_ _ | refine blk_drew ?_ | refine blk_alloc ?_ _)); exact BK444.out) hb)
               have n5_ := Aside0.mk (below_step (by repeat (first | (with_reducible first | exact HB.out | apply below_alloc | apply pw_below_drewN | apply below_drew1 | refine below_set ?_ GE421.out | refine below_set ?_ GE444.out) | exact HB.out)) hb)
               clear HO_9
               clear HO_422000
               clear BK421
               clear BK444
               clear HB
               have HO_9 := n0_
               have HO_422000 := n1_
               have HO440 := n2_
               have BK421 := n3_
               have BK444 := n4_
               have HB := n5_
               clear n0_ n1_ n2_ n3_ n4_ n5_
               (try clear hb)
               (try clear hb2)
               (try clear hk)
               (try clear hi)
               (try clear ho0)
               refine hK.out _ _ ⟨(blk_cell BK421.out 0).trans rfl, (blk_cell BK421.out 1).trans rfl, (blk_cell BK421.out 2).trans rfl, ((HB.out.cell (World.block_lt_of_cell? w _ hw437_0)).trans hw437_0)⟩ (fun hHeld => ?_)
               clear hK K
               refine norm_ (a' := ?_) ?_ ?_
               rotate_left
               ·
                show Act.put _ (some 91) _ = _
                simp only [Act.put, sbA, sbB, sbC, i64_w, i32_w]
                rfl
               refine pure_ (i := 6) (N := some 85) (v := ?_) (a' := ?_) #[true, true, true, true, true, true, true, false, false, true, false, false] rfl rfl (any_of HT_.out (by kernel_rfl)) (fun _ _ _ h => h) (Or.inl ⟨by rfl, ?_⟩) ?_ ?_
               rotate_left
               ·
                intro w'
                go_simp
                with_reducible rfl
               rotate_left
               ·
                simp only [Act.put, sbA, sbB, sbC, i64_w, i32_w]
                rfl
               refine pure_ (i := 7) (N := some 92) (v := ?_) (a' := ?_) #[true, true, true, true, true, true, true, true, false, true, false, false] rfl rfl (any_of HT_.out (by kernel_rfl)) (fun _ _ _ h => h) (Or.inl ⟨by rfl, ?_⟩) ?_ ?_
               rotate_left
               ·
                intro w'
                go_simp
                with_reducible rfl
               rotate_left
               ·
                simp only [Act.put, sbA, sbB, sbC, i64_w, i32_w]
                rfl
               refine pure_ (i := 8) (N := some 93) (v := ?_) (a' := ?_) #[true, true, true, true, true, true, true, true, true, true, false, false] rfl rfl (any_of HT_.out (by kernel_rfl)) (fun _ _ _ h => h) (Or.inl ⟨by rfl, ?_⟩) ?_ ?_
               rotate_left
               ·
                intro w'
                go_simp
                with_reducible rfl
               rotate_left
               ·
                simp only [Act.put, sbA, sbB, sbC, i64_w, i32_w]
                rfl
               exact norm_ (by simp only [putAll, Act.put, sbA, sbB, sbC]) (hCont (v439, gb444) _ ⟨hHeld, (by (with_reducible repeat (first | apply Kd.V_alloc | apply Kd.V_drewN | apply Kd.V_drew)); exact HO440.out), (by (with_reducible repeat (first | apply Kd.V_alloc | apply Kd.V_drewN | apply Kd.V_drew)); exact Kd.V_mono HO_422000.out (fun _ hk => ⟨hk.1.1, ⟨hk.1.2, hk.2⟩⟩)), (by (with_reducible repeat (first | apply Kd.Q_alloc | apply Kd.Q_drewN | apply Kd.Q_drew)); exact HO_9.out), (by (with_reducible repeat (first | refine blk_drewN ?_ _ | refine blk_drew ?_ | refine blk_alloc ?_ _)); exact BK421.out), (by (with_reducible repeat (first | refine blk_drewN ?_ _ | refine blk_drew ?_ | refine blk_alloc ?_ _)); exact BK444.out), GW444.out, GE444.out, NB421_444.out, NB444_421.out, (by repeat (first | (with_reducible first | exact HB.out | apply below_alloc | apply pw_below_drewN | apply below_drew1 | refine below_set ?_ GE421.out | refine below_set ?_ GE444.out) | exact HB.out))⟩)
             rintro ⟨v439, gb444⟩ w70 ⟨hS_, h0_, h1_, h2_, h3_, h4_, h5_, h6_, h7_, h8_, h9_⟩
             have n0_ : Aside0 (Kd.V (Kd.int .i64) 3 w70 w.heap.size (fun k_ => some k_ ≠ (u9 : Value).ownBlock ∧ k_ ≠ gb421 ∧ k_ ≠ gb444) v439 t438) := ⟨h0_⟩
             have n1_ : Aside0 (Kd.V (Kd.int .i64) 3 w70 w.heap.size (fun k_ => some k_ ≠ (u9 : Value).ownBlock ∧ k_ ≠ gb421 ∧ k_ ≠ gb444) (.slice Ao66 x422000_1.length co66) x422000_1) := ⟨h1_⟩
             have n2_ : Aside0 (Kd.Q (Kd.int .i64) 3 w70 w.heap.size (fun _ => True) u9 x9_1) := ⟨h2_⟩
             have n3_ : Aside0 (w70.heap[gb421]? = some (.cells #[.slice Ao66 x422000_1.length co66, .int .i64 x422001_1, .int .i64 x422002_1] 24 (0, 0))) := ⟨h3_⟩
             have n4_ : Aside0 (w70.heap[gb444]? = some (.cells #[.slice none 0 0, .int .i64 0, .int .i64 0] 24 (0, 0))) := ⟨h4_⟩
             have n5_ : Aside0 (w.heap.size ≤ gb444) := ⟨h5_⟩
             have n6_ : Aside0 (w.heap.size ≤ gb444) := ⟨h6_⟩
             have n7_ : Aside0 (gb421 ≠ gb444) := ⟨h7_⟩
             have n8_ : Aside0 (gb444 ≠ gb421) := ⟨h8_⟩
             have n9_ : Aside0 (Below w.heap.size w w70) := ⟨h9_⟩
             clear HO_9
             clear HO_422000
             clear BK421
             clear HB
             clear h0_ h1_ h2_ h3_ h4_ h5_ h6_ h7_ h8_ h9_
             have HO440 := n0_
             have HO_422000 := n1_
             have HO_9 := n2_
             have BK421 := n3_
             have BK444 := n4_
             have GW444 := n5_
             have GE444 := n6_
             have NB421_444 := n7_
             have NB444_421 := n8_
             have HB := n9_
             clear n0_ n1_ n2_ n3_ n4_ n5_ n6_ n7_ n8_ n9_
             have hHeld : w70.cell? ⟨gb421, 0, none⟩ = some (.slice Ao66 x422000_1.length co66) ∧ w70.cell? ⟨gb421, 1, none⟩ = some (.int .i64 x422001_1) ∧ w70.cell? ⟨gb421, 2, none⟩ = some (.int .i64 x422002_1) ∧ w70.cell? (ad437.add (x10_1).toNat) = some (.int .i64 (rd l1 x10_1)) := hS_
             obtain ⟨Ao71, co71, eo71⟩ := Kd.V_slice HO440.out
             (first | subst eo71 | (injection eo71 with f1_ f2_ f3_; have f4_ := f1_.symm; have f5_ := f3_.symm; clear f1_ f2_ f3_; subst f4_; subst f5_))
             refine norm_ (a' := ?_) ?_ ?_
             rotate_left
             ·
              simp only [putAll, Act.put, sbA, sbB, sbC]
              rfl
             refine one_ (i := 10) (N := none) #[true, true, true, true, true, true, true, true, true, true, true, false] rfl rfl (one_of HT_.out (by kernel_rfl)) (by decide) (fun K hK => ?_)
             have hs72 : w70.cell? ⟨gb444, 0, none⟩ = some (.slice none 0 0) := (blk_cell BK444.out 0).trans rfl
             have hfs72 := blk_frozen BK444.out 0
             have hns72_0 := NB421_444.out
             have hms72_0 := NB444_421.out
             have hs73 : w70.cell? ⟨gb444, 1, none⟩ = some (.int .i64 0) := (blk_cell BK444.out 1).trans rfl
             have hfs73 := blk_frozen BK444.out 1
             have hns73_0 := NB421_444.out
             have hms73_0 := NB444_421.out
             have hs74 : w70.cell? ⟨gb444, 2, none⟩ = some (.int .i64 0) := (blk_cell BK444.out 2).trans rfl
             have hfs74 := blk_frozen BK444.out 2
             have hns74_0 := NB421_444.out
             have hms74_0 := NB444_421.out
             refine skip_ (w1 := ?_) (by rfl) rfl ?_ ?_
             rotate_left
             ·
              go_simp
              rfl
             refine hK.out _ _ ⟨((cell_far (p := ⟨gb444, _, none⟩) NB421_444.out _).trans (((cell_far (p := ⟨gb444, _, none⟩) NB421_444.out _).trans (((cell_far (p := ⟨gb444, _, none⟩) NB421_444.out _).trans (hHeld.1)))))), ((cell_far (p := ⟨gb444, _, none⟩) NB421_444.out _).trans (((cell_far (p := ⟨gb444, _, none⟩) NB421_444.out _).trans (((cell_far (p := ⟨gb444, _, none⟩) NB421_444.out _).trans (hHeld.2.1)))))), ((cell_far (p := ⟨gb444, _, none⟩) NB421_444.out _).trans (((cell_far (p := ⟨gb444, _, none⟩) NB421_444.out _).trans (((cell_far (p := ⟨gb444, _, none⟩) NB421_444.out _).trans (hHeld.2.2.1)))))), ((cell_far (p := ⟨gb444, _, none⟩) (by first | exact Nat.ne_of_lt (Nat.lt_of_lt_of_le (by have := World.block_lt_of_cell? _ _ hw437_0; first | rwa [add_block] at this | exact this) GW444.out) | (rw [add_block]; exact Nat.ne_of_lt (Nat.lt_of_lt_of_le (by have := World.block_lt_of_cell? _ _ hw437_0; first | rwa [add_block] at this | exact this) GW444.out)) | (show (Addr.add _ _).block ≠ _; rw [add_block]; exact Nat.ne_of_lt (Nat.lt_of_lt_of_le (by have := World.block_lt_of_cell? _ _ hw437_0; first | rwa [add_block] at this | exact this) GW444.out)) | (dsimp only; exact Nat.ne_of_lt (Nat.lt_of_lt_of_le (by have := World.block_lt_of_cell? _ _ hw437_0; first | rwa [add_block] at this | exact this) GW444.out))) _).trans (((cell_far (p := ⟨gb444, _, none⟩) (by first | exact Nat.ne_of_lt (Nat.lt_of_lt_of_le (by have := World.block_lt_of_cell? _ _ hw437_0; first | rwa [add_block] at this | exact this) GW444.out) | (rw [add_block]; exact Nat.ne_of_lt (Nat.lt_of_lt_of_le (by have := World.block_lt_of_cell? _ _ hw437_0; first | rwa [add_block] at this | exact this) GW444.out)) | (show (Addr.add _ _).block ≠ _; rw [add_block]; exact Nat.ne_of_lt (Nat.lt_of_lt_of_le (by have := World.block_lt_of_cell? _ _ hw437_0; first | rwa [add_block] at this | exact this) GW444.out)) | (dsimp only; exact Nat.ne_of_lt (Nat.lt_of_lt_of_le (by have := World.block_lt_of_cell? _ _ hw437_0; first | rwa [add_block] at this | exact this) GW444.out))) _).trans (((cell_far (p := ⟨gb444, _, none⟩) (by first | exact Nat.ne_of_lt (Nat.lt_of_lt_of_le (by have := World.block_lt_of_cell? _ _ hw437_0; first | rwa [add_block] at this | exact this) GW444.out) | (rw [add_block]; exact Nat.ne_of_lt (Nat.lt_of_lt_of_le (by have := World.block_lt_of_cell? _ _ hw437_0; first | rwa [add_block] at this | exact this) GW444.out)) | (show (Addr.add _ _).block ≠ _; rw [add_block]; exact Nat.ne_of_lt (Nat.lt_of_lt_of_le (by have := World.block_lt_of_cell? _ _ hw437_0; first | rwa [add_block] at this | exact this) GW444.out)) | (dsimp only; exact Nat.ne_of_lt (Nat.lt_of_lt_of_le (by have := World.block_lt_of_cell? _ _ hw437_0; first | rwa [add_block] at this | exact this) GW444.out))) _).trans (hHeld.2.2.2))))))⟩ (fun hHeld => ?_)
             clear hK K
             refine pure_ (i := 11) (N := some 15) (v := ?_) (a' := ?_) #[true, true, true, true, true, true, true, true, true, true, true, true] rfl rfl (any_of HT_.out (by kernel_rfl)) (fun _ _ _ h => h) (Or.inl ⟨by rfl, ?_⟩) ?_ ?_
             rotate_left
             ·
              intro w'
              go_simp
              with_reducible rfl
             rotate_left
             ·
              simp only [Act.put, sbA, sbB, sbC, i64_w, i32_w]
              rfl
             refine done_ (done_of HT_.out (by kernel_rfl)) ?_
             obtain ⟨Ao75, co75, eo75, _⟩ := Kd.Q_slice HO_9.out
             subst eo75
             go_upto_if 102 with (fail)
             go_cut [9] (fun v9 wc => ∃ (kq : Nat) (x9_64 : List Int), Aside0 (remontoirlaw03_RingRows.j4 kq a0 l1 l2 x9_64 x10_1 t438 t441 t442 = some r) ∧ Aside0 (kq ≤ kj9) ∧ Aside0 (Kd.Q (Kd.int .i64) 3 wc w.heap.size (fun _ => True) v9 x9_64) ∧ Aside0 (Kd.V (Kd.int .i64) 3 wc w.heap.size (fun k_ => some k_ ≠ (v9 : Value).ownBlock ∧ k_ ≠ gb421 ∧ k_ ≠ gb444) (.slice Ao66 x422000_1.length co66) x422000_1) ∧ Aside0 (Kd.V (Kd.int .i64) 3 wc w.heap.size (fun k_ => some k_ ≠ (v9 : Value).ownBlock ∧ k_ ≠ gb421 ∧ k_ ≠ gb444) (.slice Ao71 t438.length co71) t438) ∧ Aside0 (wc.heap[gb421]? = some (.cells #[(.slice Ao66 x422000_1.length co66), .int .i64 x422001_1, .int .i64 x422002_1] 24 (0, 0))) ∧ Aside0 (wc.heap[gb444]? = some (.cells #[(.slice Ao71 t438.length co71), .int .i64 t441, .int .i64 t442] 24 (0, 0))) ∧ Aside0 (Below w.heap.size w wc))
             case first =>
              have H := HC65.out
              clear HC65
              by_cases c76 : t443 = 0
              ·
               rw [if_pos c76] at H
               have c76b0 : (t443 == 0) = true := beq_iff_eq.mpr c76
               have c76b1 : (t443 != 0) = false := bne_eq_false_iff_eq.mpr c76
               clear c76
               (first | rw [c76b0] | (simp only [i64_w, i32_w]; rw [c76b0]) | rw [c76b1] | (simp only [i64_w, i32_w]; rw [c76b1]) | skip)
               obtain ⟨y445, hy445⟩ : ∃ y_ : List Int, y_ = (([] : List Int)) := ⟨_, rfl⟩
               replace H : (if y445.length + x9_1.length < 17592186044416 then ((some (y445 ++ x9_1 : List Int)).bind fun y448 => ((some (([rd l1 x10_1] : List Int) : List Int)).bind fun y452 => (if y448.length + y452.length < 17592186044416 then (remontoirlaw03_RingRows.j4 kj9 a0 l1 l2 (y448 ++ y452) x10_1 t438 t441 t442) else (none)))) else (none)) = some r := by first | (rw [hy445]; with_reducible exact H) | (have H2_ := (Option.bind_some _ _).symm.trans H; rw [hy445]; with_reducible exact H2_) | (have H2_ := (Option.bind_some _ _).symm.trans H; with_reducible exact H2_) | with_reducible exact H | (rw [hy445]; exact H) | exact H
               have Ny445 := Aside0.mk hy445
               clear hy445
               by_cases c77 : y445.length + x9_1.length < 17592186044416
               ·
                rw [if_pos c77] at H
                have LMc77 := Aside0.mk c77
                clear c77
                obtain ⟨y448, hy448⟩ : ∃ y_ : List Int, y_ = (y445 ++ x9_1) := ⟨_, rfl⟩
                replace H : ((some (([rd l1 x10_1] : List Int) : List Int)).bind fun y452 => (if y448.length + y452.length < 17592186044416 then (remontoirlaw03_RingRows.j4 kj9 a0 l1 l2 (y448 ++ y452) x10_1 t438 t441 t442) else (none))) = some r := by first | (rw [hy448]; with_reducible exact H) | (have H2_ := (Option.bind_some _ _).symm.trans H; rw [hy448]; with_reducible exact H2_) | (have H2_ := (Option.bind_some _ _).symm.trans H; with_reducible exact H2_) | with_reducible exact H | (rw [hy448]; exact H) | exact H
                have Ny448 := Aside0.mk hy448
                clear hy448
                obtain ⟨y452, hy452⟩ : ∃ y_ : List Int, y_ = (([rd l1 x10_1] : List Int)) := ⟨_, rfl⟩
                replace H : (if y448.length + y452.length < 17592186044416 then (remontoirlaw03_RingRows.j4 kj9 a0 l1 l2 (y448 ++ y452) x10_1 t438 t441 t442) else (none)) = some r := by first | (rw [hy452]; with_reducible exact H) | (have H2_ := (Option.bind_some _ _).symm.trans H; rw [hy452]; with_reducible exact H2_) | (have H2_ := (Option.bind_some _ _).symm.trans H; with_reducible exact H2_) | with_reducible exact H | (rw [hy452]; exact H) | exact H
                have Ny452 := Aside0.mk hy452
                clear hy452
                by_cases c78 : y448.length + y452.length < 17592186044416
                ·
                 rw [if_pos c78] at H
                 have LMc78 := Aside0.mk c78
                 clear c78
                 obtain ⟨y455, hy455⟩ : ∃ y_ : List Int, y_ = (y448 ++ y452) := ⟨_, rfl⟩
                 replace H : (remontoirlaw03_RingRows.j4 kj9 a0 l1 l2 y455 x10_1 t438 t441 t442) = some r := by first | (rw [hy455]; with_reducible exact H) | (have H2_ := (Option.bind_some _ _).symm.trans H; rw [hy455]; with_reducible exact H2_) | (have H2_ := (Option.bind_some _ _).symm.trans H; with_reducible exact H2_) | with_reducible exact H | (rw [hy455]; exact H) | exact H
                 have Ny455 := Aside0.mk hy455
                 clear hy455
                 have H' := Aside0.mk H
                 clear H
                 try go_wp2
                 have n0_ : Aside0 (Kd.Q (Kd.int .i64) 3 (((w70.setCell ⟨gb444, 0, none⟩ (.slice Ao71 t438.length co71)).setCell ⟨gb444, 1, none⟩ (.int .i64 t441)).setCell ⟨gb444, 2, none⟩ (.int .i64 t442)) w.heap.size (fun _ => True) (.slice Ao75 x9_1.length co75) x9_1) := ⟨by (with_reducible repeat (first | apply Kd.Q_alloc | apply Kd.Q_drewN | apply Kd.Q_drew)); exact Kd.Q_mono (Kd.Q_far (p := ⟨gb444, 2, none⟩) (Kd.Q_far (p := ⟨gb444, 1, none⟩) (Kd.Q_far (p := ⟨gb444, 0, none⟩) (Kd.Q_types HO_9.out BK444.out (by decide)) (fun _ hk => hk.2) (.slice Ao71 t438.length co71)) (fun _ hk => hk.2) (.int .i64 t441)) (fun _ hk => hk.2) (.int .i64 t442)) (fun _ hk => trivial)⟩
                 have n1_ : Aside0 (Kd.V (Kd.int .i64) 3 (((w70.setCell ⟨gb444, 0, none⟩ (.slice Ao71 t438.length co71)).setCell ⟨gb444, 1, none⟩ (.int .i64 t441)).setCell ⟨gb444, 2, none⟩ (.int .i64 t442)) w.heap.size (fun k_ => some k_ ≠ (.slice Ao75 x9_1.length co75 : Value).ownBlock ∧ k_ ≠ gb421 ∧ k_ ≠ gb444) (.slice Ao66 x422000_1.length co66) x422000_1) := ⟨by (with_reducible repeat (first | apply Kd.V_alloc | apply Kd.V_drewN | apply Kd.V_drew)); exact Kd.V_mono (Kd.V_far (p := ⟨gb444, 2, none⟩) (Kd.V_far (p := ⟨gb444, 1, none⟩) (Kd.V_far (p := ⟨gb444, 0, none⟩) (Kd.V_mono HO_422000.out (fun k_ hk => (⟨hk, hk.2.2⟩ : _ ∧ k_ ≠ gb444))) (fun _ hk => hk.2) (.slice Ao71 t438.length co71)) (fun _ hk => hk.2) (.int .i64 t441)) (fun _ hk => hk.2) (.int .i64 t442)) (fun _ hk => ⟨hk.1.1, ⟨hk.1.2.1, hk.1.2.2⟩⟩)⟩
                 have n2_ : Aside0 (Kd.V (Kd.int .i64) 3 (((w70.setCell ⟨gb444, 0, none⟩ (.slice Ao71 t438.length co71)).setCell ⟨gb444, 1, none⟩ (.int .i64 t441)).setCell ⟨gb444, 2, none⟩ (.int .i64 t442)) w.heap.size (fun k_ => some k_ ≠ (.slice Ao75 x9_1.length co75 : Value).ownBlock ∧ k_ ≠ gb421 ∧ k_ ≠ gb444) (.slice Ao71 t438.length co71) t438) := ⟨by (with_reducible repeat (first | apply Kd.V_alloc | apply Kd.V_drewN | apply Kd.V_drew)); exact Kd.V_mono (Kd.V_far (p := ⟨gb444, 2, none⟩) (Kd.V_far (p := ⟨gb444, 1, none⟩) (Kd.V_far (p := ⟨gb444, 0, none⟩) (Kd.V_mono HO440.out (fun k_ hk => (⟨hk, hk.2.2⟩ : _ ∧ k_ ≠ gb444))) (fun _ hk => hk.2) (.slice Ao71 t438.length co71)) (fun _ hk => hk.2) (.int .i64 t441)) (fun _ hk => hk.2) (.int .i64 t442)) (fun _ hk => ⟨hk.1.1, ⟨hk.1.2.1, hk.1.2.2⟩⟩)⟩
                 have n3_ : Aside0 ((((w70.setCell ⟨gb444, 0, none⟩ (.slice Ao71 t438.length co71)).setCell ⟨gb444, 1, none⟩ (.int .i64 t441)).setCell ⟨gb444, 2, none⟩ (.int .i64 t442)).heap[gb421]? = some (.cells #[.slice Ao66 x422000_1.length co66, .int .i64 x422001_1, .int .i64 x422002_1] 24 (0, 0))) := ⟨by (with_reducible repeat (first | refine blk_drewN ?_ _ | refine blk_drew ?_ | refine blk_alloc ?_ _)); refine blk_far ?_ NB421_444.out _; (with_reducible repeat (first | refine blk_drewN ?_ _ | refine blk_drew ?_ | refine blk_alloc ?_ _)); refine blk_far ?_ NB421_444.out _; (with_reducible repeat (first | refine blk_drewN ?_ _ | refine blk_drew ?_ | refine blk_alloc ?_ _)); refine blk_far ?_ NB421_444.out _; (with_reducible repeat (first | refine blk_drewN ?_ _ | refine blk_drew ?_ | refine blk_alloc ?_ _)); exact BK421.out⟩
                 have n4_ : Aside0 ((((w70.setCell ⟨gb444, 0, none⟩ (.slice Ao71 t438.length co71)).setCell ⟨gb444, 1, none⟩ (.int .i64 t441)).setCell ⟨gb444, 2, none⟩ (.int .i64 t442)).heap[gb444]? = some (.cells #[.slice Ao71 t438.length co71, .int .i64 t441, .int .i64 t442] 24 (0, 0))) := ⟨by (with_reducible repeat (first | refine blk_drewN ?_ _ | refine blk_drew ?_ | refine blk_alloc ?_ _)); refine blk_put (cs := #[.slice Ao71 t438.length co71, .int .i64 t441, .int .i64 0]) ?_ 2 _ rfl; (with_reducible repeat (first | refine blk_drewN ?_ _ | refine blk_drew ?_ | refine blk_alloc ?_ _)); refine blk_put (cs := #[.slice Ao71 t438.length co71, .int .i64 0, .int .i64 0]) ?_ 1 _ rfl; (with_reducible repeat (first | refine blk_drewN ?_ _ | refine blk_drew ?_ | refine blk_alloc ?_ _)); refine blk_put (cs := #[.slice none 0 0, .int .i64 0, .int .i64 0]) ?_ 0 _ rfl; (with_reducible repeat (first | refine blk_drewN ?_ _ | refine blk_drew ?_ | refine blk_alloc ?_ _)); exact BK444.out⟩
                 have n5_ : Aside0 (Below w.heap.size w (((w70.setCell ⟨gb444, 0, none⟩ (.slice Ao71 t438.length co71)).setCell ⟨gb444, 1, none⟩ (.int .i64 t441)).setCell ⟨gb444, 2, none⟩ (.int .i64 t442))) := ⟨by repeat (first | (with_reducible first | exact HB.out | apply below_alloc | apply pw_below_drewN | apply below_drew1 | refine below_set ?_ GE421.out | refine below_set ?_ GE444.out) | exact HB.out)⟩
                 (try clear HO_9)
                 (try clear HO_422000)
                 (try clear HO440)
                 (try clear BK421)
                 (try clear BK444)
                 (try clear HB)
                 generalize (((w70.setCell ⟨gb444, 0, none⟩ (.slice Ao71 t438.length co71)).setCell ⟨gb444, 1, none⟩ (.int .i64 t441)).setCell ⟨gb444, 2, none⟩ (.int .i64 t442)) = w79 at n0_ n1_ n2_ n3_ n4_ n5_ ⊢
                 have HO_9 := n0_
                 have HO_422000 := n1_
                 have HO440 := n2_
                 have BK421 := n3_
                 have BK444 := n4_
                 have HB := n5_
                 clear n0_ n1_ n2_ n3_ n4_ n5_
                 have n0_ := Aside0.mk (Kd.Q_drew HO_9.out)
                 have n1_ := Aside0.mk (Kd.V_drew HO_422000.out)
                 have n2_ := Aside0.mk (Kd.V_drew HO440.out)
                 have n3_ := Aside0.mk (blk_drew BK421.out)
                 have n4_ := Aside0.mk (blk_drew BK444.out)
                 have n5_ := Aside0.mk (below_drew1 HB.out)
                 clear HO_9
                 clear HO_422000
                 clear HO440
                 clear BK421
                 clear BK444
                 clear HB
                 have HO_9 := n0_
                 have HO_422000 := n1_
                 have HO440 := n2_
                 have BK421 := n3_
                 have BK444 := n4_
                 have HB := n5_
                 clear n0_ n1_ n2_ n3_ n4_ n5_
                 have p451 : 0 ≤ (x10_1 : Int) := of_decide_eq_true (by first | (with_reducible assumption) | assumption)
                 have q451 : x10_1 < (l1.length : Int) := of_decide_eq_true (by first | (with_reducible assumption) | assumption)
                 obtain ⟨ad451, e451, hx451_0⟩ := Kd.at_int HR1.out x10_1 p451 q451
                 have hw451_0 := hx451_0
                 obtain rfl : ad437 = ad451 := (by injection e451)
                 replace hx451_0 := (HB.out.cell (World.block_lt_of_cell? w _ hx451_0)).trans hx451_0
                 replace p451 := eq_true p451
                 replace q451 := eq_true q451
                 refine start_ (n := 10) (S := fun w' => w'.cell? (ad437.add (x10_1).toNat) = some (.int .i64 (rd l1 x10_1))) (ds := []) #[false, false, false, false, false, false, false, false, false, false] (by kernel_rfl) rfl rfl (((HB.out.cell (World.block_lt_of_cell? w _ hw451_0)).trans hw451_0)) (fun hHeld => ?_); refine with_tabW remontoirlaw03_RingRows.tab19 remontoirlaw03_RingRows.bits19 (fun HT_ HW_ => ?_)
                 generalize w79.drew = w80 at HO_9 HO_422000 HO440 BK421 BK444 HB hx451_0 hHeld ⊢
                 refine pure_ (i := 1) (N := some 104) (v := ?_) (a' := ?_) #[false, true, false, false, false, false, false, false, false, false] rfl rfl (any_of HT_.out (by kernel_rfl)) (fun _ _ _ h => h) (Or.inl ⟨by rfl, ?_⟩) ?_ ?_
                 rotate_left
                 ·
                  intro w'
                  go_simp
                  with_reducible rfl
                 rotate_left
                 ·
                  simp only [Act.put, sbA, sbB, sbC, i64_w, i32_w]
                  rfl
                 refine pure_ (i := 3) (N := some 106) (v := ?_) (a' := ?_) #[false, true, false, true, false, false, false, false, false, false] rfl rfl (any_of HT_.out (by kernel_rfl)) (fun _ _ _ h => h) (Or.inl ⟨by rfl, ?_⟩) ?_ ?_
                 rotate_left
                 ·
                  intro w'
                  go_simp
                  with_reducible rfl
                 rotate_left
                 ·
                  simp only [Act.put, sbA, sbB, sbC, i64_w, i32_w]
                  rfl
                 refine pure_ (i := 4) (N := some 107) (v := ?_) (a' := ?_) #[false, true, false, true, true, false, false, false, false, false] rfl rfl (any_of HT_.out (by kernel_rfl)) (fun _ _ _ h => h) (Or.inl ⟨by rfl, ?_⟩) ?_ ?_
                 rotate_left
                 ·
                  intro w'
                  go_simp
                  with_reducible rfl
                 rotate_left
                 ·
                  simp only [Act.put, sbA, sbB, sbC, i64_w, i32_w]
                  rfl
                 refine pure_ (i := 5) (N := some 108) (v := ?_) (a' := ?_) #[false, true, false, true, true, true, false, false, false, false] rfl rfl (any_of HT_.out (by kernel_rfl)) (fun _ _ _ h => h) (Or.inl ⟨by rfl, ?_⟩) ?_ ?_
                 rotate_left
                 ·
                  intro w'
                  go_simp
                  with_reducible rfl
                 rotate_left
                 ·
                  simp only [Act.put, sbA, sbB, sbC, i64_w, i32_w]
                  rfl
                 refine take_ (i := 6) (N := some 109) (v := ?_) (a' := ?_) #[false, true, false, true, true, true, true, false, false, false] rfl rfl (take_ofW HT_.out HW_.out (by kernel_rfl)) (fun _ _ _ h => h) (Or.inl ⟨by rfl, ?_⟩) hHeld ?_ ?_
                 rotate_left
                 ·
                  intro w' s0
                  go_simp
                  with_reducible rfl
                 rotate_left
                 ·
                  simp only [Act.put, sbA, sbB, sbC, i64_w, i32_w]
                  rfl
                 refine join_ (σ := Value × Value × Value) 2 #[true, true, true, true, true, true, true, true, false, false] (fun s_ => [(103, s_.1), (105, s_.2.1), (110, s_.2.2)]) (fun s_ w' => (w'.cell? (ad437.add (x10_1).toNat) = some (.int .i64 (rd l1 x10_1))) ∧ (Kd.V (Kd.int .i64) 3 w' w.heap.size (fun k_ => some k_ ≠ (s_.2.1 : Value).ownBlock ∧ some k_ ≠ (s_.2.2 : Value).ownBlock ∧ some k_ ≠ (.slice Ao75 x9_1.length co75 : Value).ownBlock ∧ k_ ≠ gb421 ∧ k_ ≠ gb444) (.slice Ao71 t438.length co71) t438) ∧ (Kd.R (Kd.int .i64) 3 w' w.heap.size (fun k_ => some k_ ≠ (s_.2.2 : Value).ownBlock ∧ some k_ ≠ (.slice Ao75 x9_1.length co75 : Value).ownBlock) s_.2.1 y448) ∧ (Kd.R (Kd.int .i64) 3 w' w.heap.size (fun k_ => some k_ ≠ (s_.2.1 : Value).ownBlock ∧ some k_ ≠ (.slice Ao75 x9_1.length co75 : Value).ownBlock) s_.2.2 y452) ∧ (Kd.V (Kd.int .i64) 3 w' w.heap.size (fun k_ => some k_ ≠ (s_.2.1 : Value).ownBlock ∧ some k_ ≠ (s_.2.2 : Value).ownBlock ∧ some k_ ≠ (.slice Ao75 x9_1.length co75 : Value).ownBlock ∧ k_ ≠ gb421 ∧ k_ ≠ gb444) (.slice Ao66 x422000_1.length co66) x422000_1) ∧ (Kd.Q (Kd.int .i64) 3 w' w.heap.size (fun k_ => some k_ ≠ (s_.2.1 : Value).ownBlock ∧ some k_ ≠ (s_.2.2 : Value).ownBlock) (.slice Ao75 x9_1.length co75) x9_1) ∧ (w'.heap[gb421]? = some (.cells #[.slice Ao66 x422000_1.length co66, .int .i64 x422001_1, .int .i64 x422002_1] 24 (0, 0))) ∧ (w'.heap[gb444]? = some (.cells #[.slice Ao71 t438.length co71, .int .i64 t441, .int .i64 t442] 24 (0, 0))) ∧ (Below w.heap.size w w')) ?_ ?_
                 rotate_left
                 ·
                  intro hCont
                  refine two_ (i := 0) (j := 7) (Ni := some 103) (Nj := some 110) #[true, true, false, true, true, true, true, false, false, false] #[false, true, false, true, true, true, true, true, false, false] rfl rfl rfl rfl (two_of HT_.out (by kernel_rfl)) (by decide) (by decide) (fun K hK => ?_) (fun K hK => ?_)
                  ·
                   skip
                   refine Kd.R_lit_step (Kd.int .i64) _ 3 ?hg (N := 103) ?hd (xs := ([] : List Int)) (inner := []) (ok := fun _ => True) (okp := fun _ => True) ?hr ?hp (fun _ hk => hk) trivial (Below.refl _ _) (Nat.le_refl _) (by simp) ?_; (case hd => rfl); (case hg => rfl); (case hr => first | (go_simp; done) | (go_simp; rfl)); (case hp => exact (Reps.none _ _))
                   intro v446 w81 ho82 hb hg_ hnew_
                   clear hg_ hnew_
                   (first | rw [← Ny445.out] at ho82 | (simp only [Int.reduceToNat] at ho82; rw [← Ny445.out] at ho82))
                   have n0_ := Aside0.mk (Kd.Q_elder' (by (with_reducible repeat (first | apply Kd.Q_alloc | apply Kd.Q_drewN | apply Kd.Q_drew)); exact HO_9.out) (Kd.R_base ho82) hb)
                   have n1_ := Aside0.mk (Kd.V_elder' (by (with_reducible repeat (first | apply Kd.V_alloc | apply Kd.V_drewN | apply Kd.V_drew)); exact HO_422000.out) (Kd.R_base ho82) hb)
                   have n2_ := Aside0.mk (Kd.V_elder' (by (with_reducible repeat (first | apply Kd.V_alloc | apply Kd.V_drewN | apply Kd.V_drew)); exact HO440.out) (Kd.R_base ho82) hb)
                   have n3_ := Aside0.mk (Kd.R_lower (Kd.R_new' ho82 (Kd.Q_lt (by (with_reducible repeat (first | apply Kd.Q_alloc | apply Kd.Q_drewN | apply Kd.Q_drew)); exact HO_9.out))) (below_size (by repeat (first | (with_reducible first | exact HB.out | apply below_alloc | apply pw_below_drewN | apply below_drew1 | refine below_set ?_ GE421.out | refine below_set ?_ GE444.out) | exact HB.out))))
                   have n4_ := Aside0.mk (blk_below (g := gb421) (o := .cells #[.slice Ao66 x422000_1.length co66, .int .i64 x422001_1, .int .i64 x422002_1] 24 (0, 0)) (by (with_reducible repeat (first | refine blk_drewN ?_ _ | refine blk_drew ?_ | refine blk_alloc ?_ _)); exact BK421.out) hb)
                   have n5_ := Aside0.mk (blk_below (g := gb444) (o := .cells #[.slice Ao71 t438.length co71, .int .i64 t441, .int .i64 t442] 24 (0, 0)) (by (with_reducible repeat (first | refine blk_drewN ?_ _ | refine blk_drew ?_ | refine blk_alloc ?_ _)); exact BK444.out) hb)
                   have n6_ := Aside0.mk (below_step (by repeat (first | (with_reducible first | exact HB.out | apply below_alloc | apply pw_below_drewN | apply below_drew1 | refine below_set ?_ GE421.out | refine below_set ?_ GE444.out) | exact HB.out)) hb)
                   clear HO_9
                   clear HO_422000
                   clear HO440
                   clear BK421
                   clear BK444
                   clear HB
                   have HO_9 := n0_
                   have HO_422000 := n1_
                   have HO440 := n2_
                   have HO447 := n3_
                   have BK421 := n4_
                   have BK444 := n5_
                   have HB := n6_
                   clear n0_ n1_ n2_ n3_ n4_ n5_ n6_
                   clear hb ho82
                   refine hK.out _ _ (((HB.out.cell (World.block_lt_of_cell? w _ hw451_0)).trans hw451_0)) (fun hHeld => ?_)
                   clear hK K
                   refine norm_ (a' := ?_) ?_ ?_
                   rotate_left
                   ·
                    show Act.put _ (some 103) _ = _
                    simp only [Act.put, sbA, sbB, sbC, i64_w, i32_w]
                    rfl
                   refine two_ (i := 2) (j := 7) (Ni := some 105) (Nj := some 110) #[true, true, true, true, true, true, true, false, false, false] #[true, true, false, true, true, true, true, true, false, false] rfl rfl rfl rfl (two_of HT_.out (by kernel_rfl)) (by decide) (by decide) (fun K hK => ?_) (fun K hK => ?_)
                   ·
                    skip
                    refine Kd.R_append_rows_step (Kd.int .i64) (w0 := w) w.heap.size (by rfl) (.tmp 103) (.tmp 104) 22 3 (.int .i64 0) 8 rfl Try.underlying22 info3 rfl (by decide) (by omega) v446 y445 x9_1 _ _ _ (fun k_ => some k_ ≠ (.slice Ao75 x9_1.length co75 : Value).ownBlock) (fun _ => False) rfl rfl ?aO ?aR (fun _ _ h => h) (fun _ h => h.elim) ?aF ?aB ?aS ?aL ?_
                    (case aR => repeat (first | exact (Kd.Q_reads' HO_9.out).2.2 | (with_reducible refine Kd.C_alloc ?_ _) | (with_reducible refine Kd.C_drewN ?_ _) | (with_reducible refine Kd.C_drew ?_)))
                    (case aB => exact (by repeat (first | (with_reducible first | exact HB.out | apply below_alloc | apply pw_below_drewN | apply below_drew1 | refine below_set ?_ GE421.out | refine below_set ?_ GE444.out) | exact HB.out)))
                    (case aF => exact (fun k_ hk => Kd.fresh' (Kd.Q_lt (by (with_reducible repeat (first | apply Kd.Q_alloc | apply Kd.Q_drewN | apply Kd.Q_drew)); exact HO_9.out)) k_ hk))
                    (case aO => exact (by (with_reducible repeat (first | apply Kd.R_alloc | apply Kd.R_drewN | apply Kd.R_drew)); exact Kd.R_mono HO447.out (fun _ hk => hk.2)))
                    (case aS => exact (below_size (by repeat (first | (with_reducible first | exact HB.out | apply below_alloc | apply pw_below_drewN | apply below_drew1 | refine below_set ?_ GE421.out | refine below_set ?_ GE444.out) | exact HB.out))))
                    (case aL => have := LMc77.out; omega)
                    intro v449 w83 ho hb hg hat
                    rw [← Ny448.out] at ho
                    have n0_ := Aside0.mk (Kd.Q_after (ok := (fun _ => True)) (by (with_reducible repeat (first | apply Kd.Q_alloc | apply Kd.Q_drewN | apply Kd.Q_drew)); exact HO_9.out) hg hat)
                    have n1_ := Aside0.mk (Kd.V_afterv (ok := (fun k_ => some k_ ≠ (.slice Ao75 x9_1.length co75 : Value).ownBlock ∧ k_ ≠ gb421 ∧ k_ ≠ gb444)) (by (with_reducible repeat (first | apply Kd.V_alloc | apply Kd.V_drewN | apply Kd.V_drew)); exact HO_422000.out) hg hat)
                    have n2_ := Aside0.mk (blk_grown (g := gb421) (o := .cells #[.slice Ao66 x422000_1.length co66, .int .i64 x422001_1, .int .i64 x422002_1] 24 (0, 0)) (by (with_reducible repeat (first | refine blk_drewN ?_ _ | refine blk_drew ?_ | refine blk_alloc ?_ _)); exact BK421.out) hg (Kd.R_ne HO447.out BK421.out (by decide)))
                    have n3_ := Aside0.mk (Kd.V_afterv (ok := (fun k_ => some k_ ≠ (.slice Ao75 x9_1.length co75 : Value).ownBlock ∧ k_ ≠ gb421 ∧ k_ ≠ gb444)) (by (with_reducible repeat (first | apply Kd.V_alloc | apply Kd.V_drewN | apply Kd.V_drew)); exact HO440.out) hg hat)
                    have n4_ := Aside0.mk (blk_grown (g := gb444) (o := .cells #[.slice Ao71 t438.length co71, .int .i64 t441, .int .i64 t442] 24 (0, 0)) (by (with_reducible repeat (first | refine blk_drewN ?_ _ | refine blk_drew ?_ | refine blk_alloc ?_ _)); exact BK444.out) hg (Kd.R_ne HO447.out BK444.out (by decide)))
                    have n5_ := Aside0.mk (hb)
                    have n6_ := Aside0.mk (ho)
                    clear HO_9
                    clear HO_422000
                    clear BK421
                    clear HO440
                    clear BK444
                    clear HB
                    clear HO447
                    have HO_9 := n0_
                    have HO_422000 := n1_
                    have BK421 := n2_
                    have HO440 := n3_
                    have BK444 := n4_
                    have HB := n5_
                    have HO450 := n6_
                    clear n0_ n1_ n2_ n3_ n4_ n5_ n6_
                    clear ho hb hg hat
                    refine hK.out _ _ (((HB.out.cell (World.block_lt_of_cell? w _ hw451_0)).trans hw451_0)) (fun hHeld => ?_)
                    clear hK K
                    refine norm_ (a' := ?_) ?_ ?_
                    rotate_left
                    ·
                     show Act.put _ (some 105) _ = _
                     simp only [Act.put, sbA, sbB, sbC, i64_w, i32_w]
                     rfl
                    refine one_ (i := 7) (N := some 110) #[true, true, true, true, true, true, true, true, false, false] rfl rfl (one_of HT_.out (by kernel_rfl)) (by decide) (fun K hK => ?_)
                    refine Kd.R_lit_step (Kd.int .i64) _ 3 ?hg (N := 110) ?hd (xs := ([rd l1 x10_1] : List Int)) (inner := [.int .i64 (rd l1 x10_1)]) (ok := fun _ => True) (okp := fun _ => True) ?hr ?hp (fun _ hk => hk) trivial (Below.refl _ _) (Nat.le_refl _) (by simp) ?_; (case hd => rfl); (case hg => rfl); (case hr => first | (go_simp; done) | (go_simp; rfl)); (case hp => exact (Reps.one (show Kd.M (Kd.int .i64) _ _ _ (rd l1 x10_1) [.int .i64 (rd l1 x10_1)] from rfl) (Reps.none _ _)))
                    intro v453 w84 ho85 hb hg_ hnew_
                    clear hg_ hnew_
                    (first | rw [← Ny452.out] at ho85 | (simp only [Int.reduceToNat] at ho85; rw [← Ny452.out] at ho85))
                    have n0_ := Aside0.mk (Kd.Q_elder' (by (with_reducible repeat (first | apply Kd.Q_alloc | apply Kd.Q_drewN | apply Kd.Q_drew)); exact HO_9.out) (Kd.R_base ho85) hb)
                    have n1_ := Aside0.mk (Kd.V_elder' (by (with_reducible repeat (first | apply Kd.V_alloc | apply Kd.V_drewN | apply Kd.V_drew)); exact HO_422000.out) (Kd.R_base ho85) hb)
                    have n2_ := Aside0.mk (Kd.V_elder' (by (with_reducible repeat (first | apply Kd.V_alloc | apply Kd.V_drewN | apply Kd.V_drew)); exact HO440.out) (Kd.R_base ho85) hb)
                    have n3_ := Aside0.mk (Kd.R_elder' (by (with_reducible repeat (first | apply Kd.R_alloc | apply Kd.R_drewN | apply Kd.R_drew)); exact HO450.out) (Kd.R_base ho85) hb)
                    have n4_ := Aside0.mk (Kd.R_lower (Kd.R_new' (Kd.R_new' ho85 (Kd.Q_lt (by (with_reducible repeat (first | apply Kd.Q_alloc | apply Kd.Q_drewN | apply Kd.Q_drew)); exact HO_9.out))) (Kd.R_lt (by (with_reducible repeat (first | apply Kd.R_alloc | apply Kd.R_drewN | apply Kd.R_drew)); exact HO450.out))) (below_size (by repeat (first | (with_reducible first | exact HB.out | apply below_alloc | apply pw_below_drewN | apply below_drew1 | refine below_set ?_ GE421.out | refine below_set ?_ GE444.out) | exact HB.out))))
                    have n5_ := Aside0.mk (blk_below (g := gb421) (o := .cells #[.slice Ao66 x422000_1.length co66, .int .i64 x422001_1, .int .i64 x422002_1] 24 (0, 0)) (by (with_reducible repeat (first | refine blk_drewN ?_ _ | refine blk_drew ?_ | refine blk_alloc ?_ _)); exact BK421.out) hb)
                    have n6_ := Aside0.mk (blk_below (g := gb444) (o := .cells #[.slice Ao71 t438.length co71, .int .i64 t441, .int .i64 t442] 24 (0, 0)) (by (with_reducible repeat (first | refine blk_drewN ?_ _ | refine blk_drew ?_ | refine blk_alloc ?_ _)); exact BK444.out) hb)
                    have n7_ := Aside0.mk (below_step (by repeat (first | (with_reducible first | exact HB.out | apply below_alloc | apply pw_below_drewN | apply below_drew1 | refine below_set ?_ GE421.out | refine below_set ?_ GE444.out) | exact HB.out)) hb)
                    clear HO_9
                    clear HO_422000
                    clear HO440
                    clear HO450
                    clear BK421
                    clear BK444
                    clear HB
                    have HO_9 := n0_
                    have HO_422000 := n1_
                    have HO440 := n2_
                    have HO450 := n3_
                    have HO454 := n4_
                    have BK421 := n5_
                    have BK444 := n6_
                    have HB := n7_
                    clear n0_ n1_ n2_ n3_ n4_ n5_ n6_ n7_
                    clear hb ho85
                    refine hK.out _ _ (((HB.out.cell (World.block_lt_of_cell? w _ hw451_0)).trans hw451_0)) (fun hHeld => ?_)
                    clear hK K
                    refine norm_ (a' := ?_) ?_ ?_
                    rotate_left
                    ·
                     show Act.put _ (some 110) _ = _
                     simp only [Act.put, sbA, sbB, sbC, i64_w, i32_w]
                     rfl
                    exact norm_ (by simp only [putAll, Act.put, sbA, sbB, sbC]) (hCont (v446, v449, v453) _ ⟨hHeld, (by (with_reducible repeat (first | apply Kd.V_alloc | apply Kd.V_drewN | apply Kd.V_drew)); exact Kd.V_mono HO440.out (fun _ hk => ⟨hk.1.2, ⟨hk.2, ⟨hk.1.1.1, ⟨hk.1.1.2.1, hk.1.1.2.2⟩⟩⟩⟩)), (by (with_reducible repeat (first | apply Kd.R_alloc | apply Kd.R_drewN | apply Kd.R_drew)); exact Kd.R_mono HO450.out (fun _ hk => ⟨hk.2, hk.1⟩)), (by (with_reducible repeat (first | apply Kd.R_alloc | apply Kd.R_drewN | apply Kd.R_drew)); exact Kd.R_mono HO454.out (fun _ hk => ⟨hk.2, hk.1.2⟩)), (by (with_reducible repeat (first | apply Kd.V_alloc | apply Kd.V_drewN | apply Kd.V_drew)); exact Kd.V_mono HO_422000.out (fun _ hk => ⟨hk.1.2, ⟨hk.2, ⟨hk.1.1.1, ⟨hk.1.1.2.1, hk.1.1.2.2⟩⟩⟩⟩)), (by (with_reducible repeat (first | apply Kd.Q_alloc | apply Kd.Q_drewN | apply Kd.Q_drew)); exact Kd.Q_mono HO_9.out (fun _ hk => ⟨hk.1.2, hk.2⟩)), (by (with_reducible repeat (first | refine blk_drewN ?_ _ | refine blk_drew ?_ | refine blk_alloc ?_ _)); exact BK421.out), (by (with_reducible repeat (first | refine blk_drewN ?_ _ | refine blk_drew ?_ | refine blk_alloc ?_ _)); exact BK444.out), (by repeat (first | (with_reducible first | exact HB.out | apply below_alloc | apply pw_below_drewN | apply below_drew1 | refine below_set ?_ GE421.out | refine below_set ?_ GE444.out) | exact HB.out))⟩)
                   ·
                    skip
                    refine Kd.R_lit_step (Kd.int .i64) _ 3 ?hg (N := 110) ?hd (xs := ([rd l1 x10_1] : List Int)) (inner := [.int .i64 (rd l1 x10_1)]) (ok := fun _ => True) (okp := fun _ => True) ?hr ?hp (fun _ hk => hk) trivial (Below.refl _ _) (Nat.le_refl _) (by simp) ?_; (case hd => rfl); (case hg => rfl); (case hr => first | (go_simp; done) | (go_simp; rfl)); (case hp => exact (Reps.one (show Kd.M (Kd.int .i64) _ _ _ (rd l1 x10_1) [.int .i64 (rd l1 x10_1)] from rfl) (Reps.none _ _)))
                    intro v453 w83 ho84 hb hg_ hnew_
                    clear hg_ hnew_
                    (first | rw [← Ny452.out] at ho84 | (simp only [Int.reduceToNat] at ho84; rw [← Ny452.out] at ho84))
                    have n0_ := Aside0.mk (Kd.Q_elder' (by (with_reducible repeat (first | apply Kd.Q_alloc | apply Kd.Q_drewN | apply Kd.Q_drew)); exact HO_9.out) (Kd.R_base ho84) hb)
                    have n1_ := Aside0.mk (Kd.V_elder' (by (with_reducible repeat (first | apply Kd.V_alloc | apply Kd.V_drewN | apply Kd.V_drew)); exact HO_422000.out) (Kd.R_base ho84) hb)
                    have n2_ := Aside0.mk (Kd.V_elder' (by (with_reducible repeat (first | apply Kd.V_alloc | apply Kd.V_drewN | apply Kd.V_drew)); exact HO440.out) (Kd.R_base ho84) hb)
                    have n3_ := Aside0.mk (Kd.R_elder' (by (with_reducible repeat (first | apply Kd.R_alloc | apply Kd.R_drewN | apply Kd.R_drew)); exact HO447.out) (Kd.R_base ho84) hb)
                    have n4_ := Aside0.mk (Kd.R_lower (Kd.R_new' (Kd.R_new' ho84 (Kd.Q_lt (by (with_reducible repeat (first | apply Kd.Q_alloc | apply Kd.Q_drewN | apply Kd.Q_drew)); exact HO_9.out))) (Kd.R_lt (by (with_reducible repeat (first | apply Kd.R_alloc | apply Kd.R_drewN | apply Kd.R_drew)); exact HO447.out))) (below_size (by repeat (first | (with_reducible first | exact HB.out | apply below_alloc | apply pw_below_drewN | apply below_drew1 | refine below_set ?_ GE421.out | refine below_set ?_ GE444.out) | exact HB.out))))
                    have n5_ := Aside0.mk (blk_below (g := gb421) (o := .cells #[.slice Ao66 x422000_1.length co66, .int .i64 x422001_1, .int .i64 x422002_1] 24 (0, 0)) (by (with_reducible repeat (first | refine blk_drewN ?_ _ | refine blk_drew ?_ | refine blk_alloc ?_ _)); exact BK421.out) hb)
                    have n6_ := Aside0.mk (blk_below (g := gb444) (o := .cells #[.slice Ao71 t438.length co71, .int .i64 t441, .int .i64 t442] 24 (0, 0)) (by (with_reducible repeat (first | refine blk_drewN ?_ _ | refine blk_drew ?_ | refine blk_alloc ?_ _)); exact BK444.out) hb)
                    have n7_ := Aside0.mk (below_step (by repeat (first | (with_reducible first | exact HB.out | apply below_alloc | apply pw_below_drewN | apply below_drew1 | refine below_set ?_ GE421.out | refine below_set ?_ GE444.out) | exact HB.out)) hb)
                    clear HO_9
                    clear HO_422000
                    clear HO440
                    clear HO447
                    clear BK421
                    clear BK444
                    clear HB
                    have HO_9 := n0_
                    have HO_422000 := n1_
                    have HO440 := n2_
                    have HO447 := n3_
                    have HO454 := n4_
                    have BK421 := n5_
                    have BK444 := n6_
                    have HB := n7_
                    clear n0_ n1_ n2_ n3_ n4_ n5_ n6_ n7_
                    clear hb ho84
                    refine hK.out _ _ (((HB.out.cell (World.block_lt_of_cell? w _ hw451_0)).trans hw451_0)) (fun hHeld => ?_)
                    clear hK K
                    refine norm_ (a' := ?_) ?_ ?_
                    rotate_left
                    ·
                     show Act.put _ (some 110) _ = _
                     simp only [Act.put, sbA, sbB, sbC, i64_w, i32_w]
                     rfl
                    refine one_ (i := 2) (N := some 105) #[true, true, true, true, true, true, true, true, false, false] rfl rfl (one_of HT_.out (by kernel_rfl)) (by decide) (fun K hK => ?_)
                    refine Kd.R_append_rows_step (Kd.int .i64) (w0 := w) w.heap.size (by rfl) (.tmp 103) (.tmp 104) 22 3 (.int .i64 0) 8 rfl Try.underlying22 info3 rfl (by decide) (by omega) v446 y445 x9_1 _ _ _ (fun k_ => some k_ ≠ (.slice Ao75 x9_1.length co75 : Value).ownBlock ∧ some k_ ≠ (v453 : Value).ownBlock) (fun _ => False) rfl rfl ?aO ?aR (fun _ _ h => h) (fun _ h => h.elim) ?aF ?aB ?aS ?aL ?_
                    (case aR => repeat (first | exact (Kd.Q_reads' HO_9.out).2.2 | (with_reducible refine Kd.C_alloc ?_ _) | (with_reducible refine Kd.C_drewN ?_ _) | (with_reducible refine Kd.C_drew ?_)))
                    (case aB => exact (by repeat (first | (with_reducible first | exact HB.out | apply below_alloc | apply pw_below_drewN | apply below_drew1 | refine below_set ?_ GE421.out | refine below_set ?_ GE444.out) | exact HB.out)))
                    (case aF => exact (fun k_ hk => ⟨Kd.fresh' (Kd.Q_lt (by (with_reducible repeat (first | apply Kd.Q_alloc | apply Kd.Q_drewN | apply Kd.Q_drew)); exact HO_9.out)) k_ hk, Kd.fresh' (Kd.R_lt (by (with_reducible repeat (first | apply Kd.R_alloc | apply Kd.R_drewN | apply Kd.R_drew)); exact HO454.out)) k_ hk⟩))
                    (case aO => exact (by (with_reducible repeat (first | apply Kd.R_alloc | apply Kd.R_drewN | apply Kd.R_drew)); exact Kd.R_mono HO447.out (fun _ hk => ⟨hk.1.2, hk.2⟩)))
                    (case aS => exact (below_size (by repeat (first | (with_reducible first | exact HB.out | apply below_alloc | apply pw_below_drewN | apply below_drew1 | refine below_set ?_ GE421.out | refine below_set ?_ GE444.out) | exact HB.out))))
                    (case aL => have := LMc77.out; omega)
                    intro v449 w85 ho hb hg hat
                    rw [← Ny448.out] at ho
                    have n0_ := Aside0.mk (Kd.Q_after (ok := (fun k_ => some k_ ≠ (v453 : Value).ownBlock)) (by (with_reducible repeat (first | apply Kd.Q_alloc | apply Kd.Q_drewN | apply Kd.Q_drew)); exact Kd.Q_mono HO_9.out (fun _ hk => ⟨hk.2, hk.1.2⟩)) hg hat)
                    have n1_ := Aside0.mk (Kd.V_afterv (ok := (fun k_ => some k_ ≠ (.slice Ao75 x9_1.length co75 : Value).ownBlock ∧ some k_ ≠ (v453 : Value).ownBlock ∧ k_ ≠ gb421 ∧ k_ ≠ gb444)) (by (with_reducible repeat (first | apply Kd.V_alloc | apply Kd.V_drewN | apply Kd.V_drew)); exact Kd.V_mono HO_422000.out (fun _ hk => ⟨⟨hk.1.1.1, ⟨hk.2, ⟨hk.1.1.2.1, hk.1.1.2.2⟩⟩⟩, hk.1.2⟩)) hg hat)
                    have n2_ := Aside0.mk (blk_grown (g := gb421) (o := .cells #[.slice Ao66 x422000_1.length co66, .int .i64 x422001_1, .int .i64 x422002_1] 24 (0, 0)) (by (with_reducible repeat (first | refine blk_drewN ?_ _ | refine blk_drew ?_ | refine blk_alloc ?_ _)); exact BK421.out) hg (Kd.R_ne HO447.out BK421.out (by decide)))
                    have n3_ := Aside0.mk (Kd.V_afterv (ok := (fun k_ => some k_ ≠ (.slice Ao75 x9_1.length co75 : Value).ownBlock ∧ some k_ ≠ (v453 : Value).ownBlock ∧ k_ ≠ gb421 ∧ k_ ≠ gb444)) (by (with_reducible repeat (first | apply Kd.V_alloc | apply Kd.V_drewN | apply Kd.V_drew)); exact Kd.V_mono HO440.out (fun _ hk => ⟨⟨hk.1.1.1, ⟨hk.2, ⟨hk.1.1.2.1, hk.1.1.2.2⟩⟩⟩, hk.1.2⟩)) hg hat)
                    have n4_ := Aside0.mk (blk_grown (g := gb444) (o := .cells #[.slice Ao71 t438.length co71, .int .i64 t441, .int .i64 t442] 24 (0, 0)) (by (with_reducible repeat (first | refine blk_drewN ?_ _ | refine blk_drew ?_ | refine blk_alloc ?_ _)); exact BK444.out) hg (Kd.R_ne HO447.out BK444.out (by decide)))
                    have n5_ := Aside0.mk (Kd.R_after (ok := (fun k_ => some k_ ≠ (.slice Ao75 x9_1.length co75 : Value).ownBlock)) (by (with_reducible repeat (first | apply Kd.R_alloc | apply Kd.R_drewN | apply Kd.R_drew)); exact Kd.R_mono HO454.out (fun _ hk => ⟨hk.1.2, hk.2⟩)) hg hat)
                    have n6_ := Aside0.mk (hb)
                    have n7_ := Aside0.mk (ho)
                    clear HO_9
                    clear HO_422000
                    clear BK421
                    clear HO440
                    clear BK444
                    clear HO454
                    clear HB
                    clear HO447
                    have HO_9 := n0_
                    have HO_422000 := n1_
                    have BK421 := n2_
                    have HO440 := n3_
                    have BK444 := n4_
                    have HO454 := n5_
                    have HB := n6_
                    have HO450 := n7_
                    clear n0_ n1_ n2_ n3_ n4_ n5_ n6_ n7_
                    clear ho hb hg hat
                    refine hK.out _ _ (((HB.out.cell (World.block_lt_of_cell? w _ hw451_0)).trans hw451_0)) (fun hHeld => ?_)
                    clear hK K
                    refine norm_ (a' := ?_) ?_ ?_
                    rotate_left
                    ·
                     show Act.put _ (some 105) _ = _
                     simp only [Act.put, sbA, sbB, sbC, i64_w, i32_w]
                     rfl
                    exact norm_ (by simp only [putAll, Act.put, sbA, sbB, sbC]) (hCont (v446, v449, v453) _ ⟨hHeld, (by (with_reducible repeat (first | apply Kd.V_alloc | apply Kd.V_drewN | apply Kd.V_drew)); exact Kd.V_mono HO440.out (fun _ hk => ⟨hk.2, ⟨hk.1.2.1, ⟨hk.1.1, ⟨hk.1.2.2.1, hk.1.2.2.2⟩⟩⟩⟩)), (by (with_reducible repeat (first | apply Kd.R_alloc | apply Kd.R_drewN | apply Kd.R_drew)); exact Kd.R_mono HO450.out (fun _ hk => ⟨hk.2, hk.1⟩)), (by (with_reducible repeat (first | apply Kd.R_alloc | apply Kd.R_drewN | apply Kd.R_drew)); exact Kd.R_mono HO454.out (fun _ hk => ⟨hk.2, hk.1⟩)), (by (with_reducible repeat (first | apply Kd.V_alloc | apply Kd.V_drewN | apply Kd.V_drew)); exact Kd.V_mono HO_422000.out (fun _ hk => ⟨hk.2, ⟨hk.1.2.1, ⟨hk.1.1, ⟨hk.1.2.2.1, hk.1.2.2.2⟩⟩⟩⟩)), (by (with_reducible repeat (first | apply Kd.Q_alloc | apply Kd.Q_drewN | apply Kd.Q_drew)); exact Kd.Q_mono HO_9.out (fun _ hk => ⟨hk.2, hk.1⟩)), (by (with_reducible repeat (first | refine blk_drewN ?_ _ | refine blk_drew ?_ | refine blk_alloc ?_ _)); exact BK421.out), (by (with_reducible repeat (first | refine blk_drewN ?_ _ | refine blk_drew ?_ | refine blk_alloc ?_ _)); exact BK444.out), (by repeat (first | (with_reducible first | exact HB.out | apply below_alloc | apply pw_below_drewN | apply below_drew1 | refine below_set ?_ GE421.out | refine below_set ?_ GE444.out) | exact HB.out))⟩)
                  ·
                   skip
                   refine Kd.R_lit_step (Kd.int .i64) _ 3 ?hg (N := 110) ?hd (xs := ([rd l1 x10_1] : List Int)) (inner := [.int .i64 (rd l1 x10_1)]) (ok := fun _ => True) (okp := fun _ => True) ?hr ?hp (fun _ hk => hk) trivial (Below.refl _ _) (Nat.le_refl _) (by simp) ?_; (case hd => rfl); (case hg => rfl); (case hr => first | (go_simp; done) | (go_simp; rfl)); (case hp => exact (Reps.one (show Kd.M (Kd.int .i64) _ _ _ (rd l1 x10_1) [.int .i64 (rd l1 x10_1)] from rfl) (Reps.none _ _)))
                   intro v453 w81 ho82 hb hg_ hnew_
                   clear hg_ hnew_
                   (first | rw [← Ny452.out] at ho82 | (simp only [Int.reduceToNat] at ho82; rw [← Ny452.out] at ho82))
                   have n0_ := Aside0.mk (Kd.Q_elder' (by (with_reducible repeat (first | apply Kd.Q_alloc | apply Kd.Q_drewN | apply Kd.Q_drew)); exact HO_9.out) (Kd.R_base ho82) hb)
                   have n1_ := Aside0.mk (Kd.V_elder' (by (with_reducible repeat (first | apply Kd.V_alloc | apply Kd.V_drewN | apply Kd.V_drew)); exact HO_422000.out) (Kd.R_base ho82) hb)
                   have n2_ := Aside0.mk (Kd.V_elder' (by (with_reducible repeat (first | apply Kd.V_alloc | apply Kd.V_drewN | apply Kd.V_drew)); exact HO440.out) (Kd.R_base ho82) hb)
                   have n3_ := Aside0.mk (Kd.R_lower (Kd.R_new' ho82 (Kd.Q_lt (by (with_reducible repeat (first | apply Kd.Q_alloc | apply Kd.Q_drewN | apply Kd.Q_drew)); exact HO_9.out))) (below_size (by repeat (first | (with_reducible first | exact HB.out | apply below_alloc | apply pw_below_drewN | apply below_drew1 | refine below_set ?_ GE421.out | refine below_set ?_ GE444.out) | exact HB.out))))
                   have n4_ := Aside0.mk (blk_below (g := gb421) (o := .cells #[.slice Ao66 x422000_1.length co66, .int .i64 x422001_1, .int .i64 x422002_1] 24 (0, 0)) (by (with_reducible repeat (first | refine blk_drewN ?_ _ | refine blk_drew ?_ | refine blk_alloc ?_ _)); exact BK421.out) hb)
                   have n5_ := Aside0.mk (blk_below (g := gb444) (o := .cells #[.slice Ao71 t438.length co71, .int .i64 t441, .int .i64 t442] 24 (0, 0)) (by (with_reducible repeat (first | refine blk_drewN ?_ _ | refine blk_drew ?_ | refine blk_alloc ?_ _)); exact BK444.out) hb)
                   have n6_ := Aside0.mk (below_step (by repeat (first | (with_reducible first | exact HB.out | apply below_alloc | apply pw_below_drewN | apply below_drew1 | refine below_set ?_ GE421.out | refine below_set ?_ GE444.out) | exact HB.out)) hb)
                   clear HO_9
                   clear HO_422000
                   clear HO440
                   clear BK421
                   clear BK444
                   clear HB
                   have HO_9 := n0_
                   have HO_422000 := n1_
                   have HO440 := n2_
                   have HO454 := n3_
                   have BK421 := n4_
                   have BK444 := n5_
                   have HB := n6_
                   clear n0_ n1_ n2_ n3_ n4_ n5_ n6_
                   clear hb ho82
                   refine hK.out _ _ (((HB.out.cell (World.block_lt_of_cell? w _ hw451_0)).trans hw451_0)) (fun hHeld => ?_)
                   clear hK K
                   refine norm_ (a' := ?_) ?_ ?_
                   rotate_left
                   ·
                    show Act.put _ (some 110) _ = _
                    simp only [Act.put, sbA, sbB, sbC, i64_w, i32_w]
                    rfl
                   refine one_ (i := 0) (N := some 103) #[true, true, false, true, true, true, true, true, false, false] rfl rfl (one_of HT_.out (by kernel_rfl)) (by decide) (fun K hK => ?_)
                   refine Kd.R_lit_step (Kd.int .i64) _ 3 ?hg (N := 103) ?hd (xs := ([] : List Int)) (inner := []) (ok := fun _ => True) (okp := fun _ => True) ?hr ?hp (fun _ hk => hk) trivial (Below.refl _ _) (Nat.le_refl _) (by simp) ?_; (case hd => rfl); (case hg => rfl); (case hr => first | (go_simp; done) | (go_simp; rfl)); (case hp => exact (Reps.none _ _))
                   intro v446 w83 ho84 hb hg_ hnew_
                   clear hg_ hnew_
                   (first | rw [← Ny445.out] at ho84 | (simp only [Int.reduceToNat] at ho84; rw [← Ny445.out] at ho84))
                   have n0_ := Aside0.mk (Kd.Q_elder' (by (with_reducible repeat (first | apply Kd.Q_alloc | apply Kd.Q_drewN | apply Kd.Q_drew)); exact HO_9.out) (Kd.R_base ho84) hb)
                   have n1_ := Aside0.mk (Kd.V_elder' (by (with_reducible repeat (first | apply Kd.V_alloc | apply Kd.V_drewN | apply Kd.V_drew)); exact HO_422000.out) (Kd.R_base ho84) hb)
                   have n2_ := Aside0.mk (Kd.V_elder' (by (with_reducible repeat (first | apply Kd.V_alloc | apply Kd.V_drewN | apply Kd.V_drew)); exact HO440.out) (Kd.R_base ho84) hb)
                   have n3_ := Aside0.mk (Kd.R_elder' (by (with_reducible repeat (first | apply Kd.R_alloc | apply Kd.R_drewN | apply Kd.R_drew)); exact HO454.out) (Kd.R_base ho84) hb)
                   have n4_ := Aside0.mk (Kd.R_lower (Kd.R_new' (Kd.R_new' ho84 (Kd.Q_lt (by (with_reducible repeat (first | apply Kd.Q_alloc | apply Kd.Q_drewN | apply Kd.Q_drew)); exact HO_9.out))) (Kd.R_lt (by (with_reducible repeat (first | apply Kd.R_alloc | apply Kd.R_drewN | apply Kd.R_drew)); exact HO454.out))) (below_size (by repeat (first | (with_reducible first | exact HB.out | apply below_alloc | apply pw_below_drewN | apply below_drew1 | refine below_set ?_ GE421.out | refine below_set ?_ GE444.out) | exact HB.out))))
                   have n5_ := Aside0.mk (blk_below (g := gb421) (o := .cells #[.slice Ao66 x422000_1.length co66, .int .i64 x422001_1, .int .i64 x422002_1] 24 (0, 0)) (by (with_reducible repeat (first | refine blk_drewN ?_ _ | refine blk_drew ?_ | refine blk_alloc ?_ _)); exact BK421.out) hb)
                   have n6_ := Aside0.mk (blk_below (g := gb444) (o := .cells #[.slice Ao71 t438.length co71, .int .i64 t441, .int .i64 t442] 24 (0, 0)) (by (with_reducible repeat (first | refine blk_drewN ?_ _ | refine blk_drew ?_ | refine blk_alloc ?_ _)); exact BK444.out) hb)
                   have n7_ := Aside0.mk (below_step (by repeat (first | (with_reducible first | exact HB.out | apply below_alloc | apply pw_below_drewN | apply below_drew1 | refine below_set ?_ GE421.out | refine below_set ?_ GE444.out) | exact HB.out)) hb)
                   clear HO_9
                   clear HO_422000
                   clear HO440
                   clear HO454
                   clear BK421
                   clear BK444
                   clear HB
                   have HO_9 := n0_
                   have HO_422000 := n1_
                   have HO440 := n2_
                   have HO454 := n3_
                   have HO447 := n4_
                   have BK421 := n5_
                   have BK444 := n6_
                   have HB := n7_
                   clear n0_ n1_ n2_ n3_ n4_ n5_ n6_ n7_
                   clear hb ho84
                   refine hK.out _ _ (((HB.out.cell (World.block_lt_of_cell? w _ hw451_0)).trans hw451_0)) (fun hHeld => ?_)
                   clear hK K
                   refine norm_ (a' := ?_) ?_ ?_
                   rotate_left
                   ·
                    show Act.put _ (some 103) _ = _
                    simp only [Act.put, sbA, sbB, sbC, i64_w, i32_w]
                    rfl
                   refine one_ (i := 2) (N := some 105) #[true, true, true, true, true, true, true, true, false, false] rfl rfl (one_of HT_.out (by kernel_rfl)) (by decide) (fun K hK => ?_)
                   refine Kd.R_append_rows_step (Kd.int .i64) (w0 := w) w.heap.size (by rfl) (.tmp 103) (.tmp 104) 22 3 (.int .i64 0) 8 rfl Try.underlying22 info3 rfl (by decide) (by omega) v446 y445 x9_1 _ _ _ (fun k_ => some k_ ≠ (.slice Ao75 x9_1.length co75 : Value).ownBlock ∧ some k_ ≠ (v453 : Value).ownBlock) (fun _ => False) rfl rfl ?aO ?aR (fun _ _ h => h) (fun _ h => h.elim) ?aF ?aB ?aS ?aL ?_
                   (case aR => repeat (first | exact (Kd.Q_reads' HO_9.out).2.2 | (with_reducible refine Kd.C_alloc ?_ _) | (with_reducible refine Kd.C_drewN ?_ _) | (with_reducible refine Kd.C_drew ?_)))
                   (case aB => exact (by repeat (first | (with_reducible first | exact HB.out | apply below_alloc | apply pw_below_drewN | apply below_drew1 | refine below_set ?_ GE421.out | refine below_set ?_ GE444.out) | exact HB.out)))
                   (case aF => exact (fun k_ hk => ⟨Kd.fresh' (Kd.Q_lt (by (with_reducible repeat (first | apply Kd.Q_alloc | apply Kd.Q_drewN | apply Kd.Q_drew)); exact HO_9.out)) k_ hk, Kd.fresh' (Kd.R_lt (by (with_reducible repeat (first | apply Kd.R_alloc | apply Kd.R_drewN | apply Kd.R_drew)); exact HO454.out)) k_ hk⟩))
                   (case aO => exact (by (with_reducible repeat (first | apply Kd.R_alloc | apply Kd.R_drewN | apply Kd.R_drew)); exact Kd.R_mono HO447.out (fun _ hk => ⟨hk.1.2, hk.2⟩)))
                   (case aS => exact (below_size (by repeat (first | (with_reducible first | exact HB.out | apply below_alloc | apply pw_below_drewN | apply below_drew1 | refine below_set ?_ GE421.out | refine below_set ?_ GE444.out) | exact HB.out))))
                   (case aL => have := LMc77.out; omega)
                   intro v449 w85 ho hb hg hat
                   rw [← Ny448.out] at ho
                   have n0_ := Aside0.mk (Kd.Q_after (ok := (fun k_ => some k_ ≠ (v453 : Value).ownBlock)) (by (with_reducible repeat (first | apply Kd.Q_alloc | apply Kd.Q_drewN | apply Kd.Q_drew)); exact Kd.Q_mono HO_9.out (fun _ hk => ⟨hk.1.2, hk.2⟩)) hg hat)
                   have n1_ := Aside0.mk (Kd.V_afterv (ok := (fun k_ => some k_ ≠ (.slice Ao75 x9_1.length co75 : Value).ownBlock ∧ some k_ ≠ (v453 : Value).ownBlock ∧ k_ ≠ gb421 ∧ k_ ≠ gb444)) (by (with_reducible repeat (first | apply Kd.V_alloc | apply Kd.V_drewN | apply Kd.V_drew)); exact Kd.V_mono HO_422000.out (fun _ hk => ⟨⟨hk.1.1.1, ⟨hk.1.2, ⟨hk.1.1.2.1, hk.1.1.2.2⟩⟩⟩, hk.2⟩)) hg hat)
                   have n2_ := Aside0.mk (blk_grown (g := gb421) (o := .cells #[.slice Ao66 x422000_1.length co66, .int .i64 x422001_1, .int .i64 x422002_1] 24 (0, 0)) (by (with_reducible repeat (first | refine blk_drewN ?_ _ | refine blk_drew ?_ | refine blk_alloc ?_ _)); exact BK421.out) hg (Kd.R_ne HO447.out BK421.out (by decide)))
                   have n3_ := Aside0.mk (Kd.V_afterv (ok := (fun k_ => some k_ ≠ (.slice Ao75 x9_1.length co75 : Value).ownBlock ∧ some k_ ≠ (v453 : Value).ownBlock ∧ k_ ≠ gb421 ∧ k_ ≠ gb444)) (by (with_reducible repeat (first | apply Kd.V_alloc | apply Kd.V_drewN | apply Kd.V_drew)); exact Kd.V_mono HO440.out (fun _ hk => ⟨⟨hk.1.1.1, ⟨hk.1.2, ⟨hk.1.1.2.1, hk.1.1.2.2⟩⟩⟩, hk.2⟩)) hg hat)
                   have n4_ := Aside0.mk (blk_grown (g := gb444) (o := .cells #[.slice Ao71 t438.length co71, .int .i64 t441, .int .i64 t442] 24 (0, 0)) (by (with_reducible repeat (first | refine blk_drewN ?_ _ | refine blk_drew ?_ | refine blk_alloc ?_ _)); exact BK444.out) hg (Kd.R_ne HO447.out BK444.out (by decide)))
                   have n5_ := Aside0.mk (Kd.R_after (ok := (fun k_ => some k_ ≠ (.slice Ao75 x9_1.length co75 : Value).ownBlock)) (by (with_reducible repeat (first | apply Kd.R_alloc | apply Kd.R_drewN | apply Kd.R_drew)); exact Kd.R_mono HO454.out (fun _ hk => ⟨hk.1.2, hk.2⟩)) hg hat)
                   have n6_ := Aside0.mk (hb)
                   have n7_ := Aside0.mk (ho)
                   clear HO_9
                   clear HO_422000
                   clear BK421
                   clear HO440
                   clear BK444
                   clear HO454
                   clear HB
                   clear HO447
                   have HO_9 := n0_
                   have HO_422000 := n1_
                   have BK421 := n2_
                   have HO440 := n3_
                   have BK444 := n4_
                   have HO454 := n5_
                   have HB := n6_
                   have HO450 := n7_
                   clear n0_ n1_ n2_ n3_ n4_ n5_ n6_ n7_
                   clear ho hb hg hat
                   refine hK.out _ _ (((HB.out.cell (World.block_lt_of_cell? w _ hw451_0)).trans hw451_0)) (fun hHeld => ?_)
                   clear hK K
                   refine norm_ (a' := ?_) ?_ ?_
                   rotate_left
                   ·
                    show Act.put _ (some 105) _ = _
                    simp only [Act.put, sbA, sbB, sbC, i64_w, i32_w]
                    rfl
                   exact norm_ (by simp only [putAll, Act.put, sbA, sbB, sbC]) (hCont (v446, v449, v453) _ ⟨hHeld, (by (with_reducible repeat (first | apply Kd.V_alloc | apply Kd.V_drewN | apply Kd.V_drew)); exact Kd.V_mono HO440.out (fun _ hk => ⟨hk.2, ⟨hk.1.2.1, ⟨hk.1.1, ⟨hk.1.2.2.1, hk.1.2.2.2⟩⟩⟩⟩)), (by (with_reducible repeat (first | apply Kd.R_alloc | apply Kd.R_drewN | apply Kd.R_drew)); exact Kd.R_mono HO450.out (fun _ hk => ⟨hk.2, hk.1⟩)), (by (with_reducible repeat (first | apply Kd.R_alloc | apply Kd.R_drewN | apply Kd.R_drew)); exact Kd.R_mono HO454.out (fun _ hk => ⟨hk.2, hk.1⟩)), (by (with_reducible repeat (first | apply Kd.V_alloc | apply Kd.V_drewN | apply Kd.V_drew)); exact Kd.V_mono HO_422000.out (fun _ hk => ⟨hk.2, ⟨hk.1.2.1, ⟨hk.1.1, ⟨hk.1.2.2.1, hk.1.2.2.2⟩⟩⟩⟩)), (by (with_reducible repeat (first | apply Kd.Q_alloc | apply Kd.Q_drewN | apply Kd.Q_drew)); exact Kd.Q_mono HO_9.out (fun _ hk => ⟨hk.2, hk.1⟩)), (by (with_reducible repeat (first | refine blk_drewN ?_ _ | refine blk_drew ?_ | refine blk_alloc ?_ _)); exact BK421.out), (by (with_reducible repeat (first | refine blk_drewN ?_ _ | refine blk_drew ?_ | refine blk_alloc ?_ _)); exact BK444.out), (by repeat (first | (with_reducible first | exact HB.out | apply below_alloc | apply pw_below_drewN | apply below_drew1 | refine below_set ?_ GE421.out | refine below_set ?_ GE444.out) | exact HB.out))⟩)
                 rintro ⟨v446, v449, v453⟩ w86 ⟨hS_, h0_, h1_, h2_, h3_, h4_, h5_, h6_, h7_⟩
                 have n0_ : Aside0 (Kd.V (Kd.int .i64) 3 w86 w.heap.size (fun k_ => some k_ ≠ (v449 : Value).ownBlock ∧ some k_ ≠ (v453 : Value).ownBlock ∧ some k_ ≠ (.slice Ao75 x9_1.length co75 : Value).ownBlock ∧ k_ ≠ gb421 ∧ k_ ≠ gb444) (.slice Ao71 t438.length co71) t438) := ⟨h0_⟩
                 have n1_ : Aside0 (Kd.R (Kd.int .i64) 3 w86 w.heap.size (fun k_ => some k_ ≠ (v453 : Value).ownBlock ∧ some k_ ≠ (.slice Ao75 x9_1.length co75 : Value).ownBlock) v449 y448) := ⟨h1_⟩
                 have n2_ : Aside0 (Kd.R (Kd.int .i64) 3 w86 w.heap.size (fun k_ => some k_ ≠ (v449 : Value).ownBlock ∧ some k_ ≠ (.slice Ao75 x9_1.length co75 : Value).ownBlock) v453 y452) := ⟨h2_⟩
                 have n3_ : Aside0 (Kd.V (Kd.int .i64) 3 w86 w.heap.size (fun k_ => some k_ ≠ (v449 : Value).ownBlock ∧ some k_ ≠ (v453 : Value).ownBlock ∧ some k_ ≠ (.slice Ao75 x9_1.length co75 : Value).ownBlock ∧ k_ ≠ gb421 ∧ k_ ≠ gb444) (.slice Ao66 x422000_1.length co66) x422000_1) := ⟨h3_⟩
                 have n4_ : Aside0 (Kd.Q (Kd.int .i64) 3 w86 w.heap.size (fun k_ => some k_ ≠ (v449 : Value).ownBlock ∧ some k_ ≠ (v453 : Value).ownBlock) (.slice Ao75 x9_1.length co75) x9_1) := ⟨h4_⟩
                 have n5_ : Aside0 (w86.heap[gb421]? = some (.cells #[.slice Ao66 x422000_1.length co66, .int .i64 x422001_1, .int .i64 x422002_1] 24 (0, 0))) := ⟨h5_⟩
                 have n6_ : Aside0 (w86.heap[gb444]? = some (.cells #[.slice Ao71 t438.length co71, .int .i64 t441, .int .i64 t442] 24 (0, 0))) := ⟨h6_⟩
                 have n7_ : Aside0 (Below w.heap.size w w86) := ⟨h7_⟩
                 clear HO_9
                 clear HO_422000
                 clear HO440
                 clear BK421
                 clear BK444
                 clear HB
                 clear h0_ h1_ h2_ h3_ h4_ h5_ h6_ h7_
                 have HO440 := n0_
                 have HO450 := n1_
                 have HO454 := n2_
                 have HO_422000 := n3_
                 have HO_9 := n4_
                 have BK421 := n5_
                 have BK444 := n6_
                 have HB := n7_
                 clear n0_ n1_ n2_ n3_ n4_ n5_ n6_ n7_
                 have hHeld : w86.cell? (ad437.add (x10_1).toNat) = some (.int .i64 (rd l1 x10_1)) := hS_
                 obtain ⟨Ao88, co88, eo88⟩ := Kd.R_slice HO454.out
                 (first | subst eo88 | (injection eo88 with f1_ f2_ f3_; have f4_ := f1_.symm; have f5_ := f3_.symm; clear f1_ f2_ f3_; subst f4_; subst f5_))
                 refine norm_ (a' := ?_) ?_ ?_
                 rotate_left
                 ·
                  simp only [putAll, Act.put, sbA, sbB, sbC]
                  rfl
                 refine one_ (i := 8) (N := some 111) #[true, true, true, true, true, true, true, true, true, false] rfl rfl (one_of HT_.out (by kernel_rfl)) (by decide) (fun K hK => ?_)
                 refine Kd.R_append_rows_step (Kd.int .i64) (w0 := w) w.heap.size (by rfl) (.tmp 105) (.tmp 110) 22 3 (.int .i64 0) 8 rfl Try.underlying22 info3 rfl (by decide) (by omega) v449 y448 y452 _ _ _ (fun k_ => some k_ ≠ (.slice Ao75 x9_1.length co75 : Value).ownBlock ∧ some k_ ≠ (.slice Ao88 y452.length co88 : Value).ownBlock) (fun _ => False) rfl rfl ?aO ?aR (fun _ _ h => h) (fun _ h => h.elim) ?aF ?aB ?aS ?aL ?_
                 (case aR => repeat (first | exact (Kd.R_reads' HO454.out).2.2 | (with_reducible refine Kd.C_alloc ?_ _) | (with_reducible refine Kd.C_drewN ?_ _) | (with_reducible refine Kd.C_drew ?_)))
                 (case aB => exact (by repeat (first | (with_reducible first | exact HB.out | apply below_alloc | apply pw_below_drewN | apply below_drew1 | refine below_set ?_ GE421.out | refine below_set ?_ GE444.out) | exact HB.out)))
                 (case aF => exact (fun k_ hk => ⟨Kd.fresh' (Kd.Q_lt (by (with_reducible repeat (first | apply Kd.Q_alloc | apply Kd.Q_drewN | apply Kd.Q_drew)); exact HO_9.out)) k_ hk, Kd.fresh' (Kd.R_lt (by (with_reducible repeat (first | apply Kd.R_alloc | apply Kd.R_drewN | apply Kd.R_drew)); exact HO454.out)) k_ hk⟩))
                 (case aO => exact (by (with_reducible repeat (first | apply Kd.R_alloc | apply Kd.R_drewN | apply Kd.R_drew)); exact Kd.R_mono HO450.out (fun _ hk => ⟨hk.2, hk.1⟩)))
                 (case aS => exact (below_size (by repeat (first | (with_reducible first | exact HB.out | apply below_alloc | apply pw_below_drewN | apply below_drew1 | refine below_set ?_ GE421.out | refine below_set ?_ GE444.out) | exact HB.out))))
                 (case aL => have := LMc78.out; omega)
                 intro v456 w87 ho hb hg hat
                 rw [← Ny455.out] at ho
                 have n0_ := Aside0.mk (Kd.Q_after (ok := (fun k_ => some k_ ≠ (.slice Ao88 y452.length co88 : Value).ownBlock)) (by (with_reducible repeat (first | apply Kd.Q_alloc | apply Kd.Q_drewN | apply Kd.Q_drew)); exact Kd.Q_mono HO_9.out (fun _ hk => ⟨hk.2, hk.1⟩)) hg hat)
                 have n1_ := Aside0.mk (Kd.V_afterv (ok := (fun k_ => some k_ ≠ (.slice Ao75 x9_1.length co75 : Value).ownBlock ∧ some k_ ≠ (.slice Ao88 y452.length co88 : Value).ownBlock ∧ k_ ≠ gb421 ∧ k_ ≠ gb444)) (by (with_reducible repeat (first | apply Kd.V_alloc | apply Kd.V_drewN | apply Kd.V_drew)); exact Kd.V_mono HO_422000.out (fun _ hk => ⟨⟨hk.2.2.1, ⟨hk.2.1, ⟨hk.2.2.2.1, hk.2.2.2.2⟩⟩⟩, hk.1⟩)) hg hat)
                 have n2_ := Aside0.mk (blk_grown (g := gb421) (o := .cells #[.slice Ao66 x422000_1.length co66, .int .i64 x422001_1, .int .i64 x422002_1] 24 (0, 0)) (by (with_reducible repeat (first | refine blk_drewN ?_ _ | refine blk_drew ?_ | refine blk_alloc ?_ _)); exact BK421.out) hg (Kd.R_ne HO450.out BK421.out (by decide)))
                 have n3_ := Aside0.mk (Kd.V_afterv (ok := (fun k_ => some k_ ≠ (.slice Ao75 x9_1.length co75 : Value).ownBlock ∧ some k_ ≠ (.slice Ao88 y452.length co88 : Value).ownBlock ∧ k_ ≠ gb421 ∧ k_ ≠ gb444)) (by (with_reducible repeat (first | apply Kd.V_alloc | apply Kd.V_drewN | apply Kd.V_drew)); exact Kd.V_mono HO440.out (fun _ hk => ⟨⟨hk.2.2.1, ⟨hk.2.1, ⟨hk.2.2.2.1, hk.2.2.2.2⟩⟩⟩, hk.1⟩)) hg hat)
                 have n4_ := Aside0.mk (blk_grown (g := gb444) (o := .cells #[.slice Ao71 t438.length co71, .int .i64 t441, .int .i64 t442] 24 (0, 0)) (by (with_reducible repeat (first | refine blk_drewN ?_ _ | refine blk_drew ?_ | refine blk_alloc ?_ _)); exact BK444.out) hg (Kd.R_ne HO450.out BK444.out (by decide)))
                 have n5_ := Aside0.mk (Kd.R_after (ok := (fun k_ => some k_ ≠ (.slice Ao75 x9_1.length co75 : Value).ownBlock)) (by (with_reducible repeat (first | apply Kd.R_alloc | apply Kd.R_drewN | apply Kd.R_drew)); exact Kd.R_mono HO454.out (fun _ hk => ⟨hk.2, hk.1⟩)) hg hat)
                 have n6_ := Aside0.mk (hb)
                 have n7_ := Aside0.mk (ho)
                 clear HO_9
                 clear HO_422000
                 clear BK421
                 clear HO440
                 clear BK444
                 clear HO454
                 clear HB
                 clear HO450
                 have HO_9 := n0_
                 have HO_422000 := n1_
                 have BK421 := n2_
                 have HO440 := n3_
                 have BK444 := n4_
                 have HO454 := n5_
                 have HB := n6_
                 have HO457 := n7_
                 clear n0_ n1_ n2_ n3_ n4_ n5_ n6_ n7_
                 clear ho hb hg hat
                 refine hK.out _ _ (((HB.out.cell (World.block_lt_of_cell? w _ hw451_0)).trans hw451_0)) (fun hHeld => ?_)
                 clear hK K
                 refine norm_ (a' := ?_) ?_ ?_
                 rotate_left
                 ·
                  show Act.put _ (some 111) _ = _
                  simp only [Act.put, sbA, sbB, sbC, i64_w, i32_w]
                  rfl
                 refine pure_ (i := 9) (N := some 9) (v := ?_) (a' := ?_) #[true, true, true, true, true, true, true, true, true, true] rfl rfl (any_of HT_.out (by kernel_rfl)) (fun _ _ _ h => h) (Or.inl ⟨by rfl, ?_⟩) ?_ ?_
                 rotate_left
                 ·
                  intro w'
                  go_simp
                  with_reducible rfl
                 rotate_left
                 ·
                  simp only [Act.put, sbA, sbB, sbC, i64_w, i32_w]
                  rfl
                 refine done_ (done_of HT_.out (by kernel_rfl)) ?_
                 try go_wp2
                 go_meet
                 case rel => exact ⟨_, (y455), H', ⟨by have := HK1.out; have := HJ9.out; first | omega | exact Nat.le_refl _⟩, ⟨Kd.Q_of_R (by (with_reducible repeat (first | apply Kd.R_alloc | apply Kd.R_drewN | apply Kd.R_drew)); exact Kd.R_mono HO457.out (fun _ hk => trivial))⟩, ⟨by (with_reducible repeat (first | apply Kd.V_alloc | apply Kd.V_drewN | apply Kd.V_drew)); exact Kd.V_mono HO_422000.out (fun _ hk => ⟨hk.2, ⟨hk.1.2.2.1, hk.1.2.2.2⟩⟩)⟩, ⟨by (with_reducible repeat (first | apply Kd.V_alloc | apply Kd.V_drewN | apply Kd.V_drew)); exact Kd.V_mono HO440.out (fun _ hk => ⟨hk.2, ⟨hk.1.2.2.1, hk.1.2.2.2⟩⟩)⟩, ⟨by (with_reducible repeat (first | refine blk_drewN ?_ _ | refine blk_drew ?_ | refine blk_alloc ?_ _)); exact BK421.out⟩, ⟨by (with_reducible repeat (first | refine blk_drewN ?_ _ | refine blk_drew ?_ | refine blk_alloc ?_ _)); exact BK444.out⟩, ⟨by repeat (first | (with_reducible first | exact HB.out | apply below_alloc | apply pw_below_drewN | apply below_drew1 | refine below_set ?_ GE421.out | refine below_set ?_ GE444.out) | exact HB.out)⟩⟩
                ·
                 rw [if_neg c78] at H
                 exact absurd H (by simp)
               ·
                rw [if_neg c77] at H
                exact absurd H (by simp)
              ·
               rw [if_neg c76] at H
               have c76b0 : (t443 == 0) = false := beq_eq_false_iff_ne.mpr c76
               have c76b1 : (t443 != 0) = true := bne_iff_ne.mpr c76
               (first | rw [c76b0] | (simp only [i64_w, i32_w]; rw [c76b0]) | rw [c76b1] | (simp only [i64_w, i32_w]; rw [c76b1]) | skip)
               have H' := Aside0.mk H
               clear H
               go_wp2
               go_meet
               case rel => exact ⟨_, (x9_1), H', ⟨by have := HK1.out; have := HJ9.out; first | omega | exact Nat.le_refl _⟩, ⟨by (with_reducible repeat (first | apply Kd.Q_alloc | apply Kd.Q_drewN | apply Kd.Q_drew)); exact Kd.Q_mono (Kd.Q_far (p := ⟨gb444, 2, none⟩) (Kd.Q_far (p := ⟨gb444, 1, none⟩) (Kd.Q_far (p := ⟨gb444, 0, none⟩) (Kd.Q_types HO_9.out BK444.out (by decide)) (fun _ hk => hk.2) (.slice Ao71 t438.length co71)) (fun _ hk => hk.2) (.int .i64 t441)) (fun _ hk => hk.2) (.int .i64 t442)) (fun _ hk => trivial)⟩, ⟨by (with_reducible repeat (first | apply Kd.V_alloc | apply Kd.V_drewN | apply Kd.V_drew)); exact Kd.V_mono (Kd.V_far (p := ⟨gb444, 2, none⟩) (Kd.V_far (p := ⟨gb444, 1, none⟩) (Kd.V_far (p := ⟨gb444, 0, none⟩) (Kd.V_mono HO_422000.out (fun k_ hk => (⟨hk, hk.2.2⟩ : _ ∧ k_ ≠ gb444))) (fun _ hk => hk.2) (.slice Ao71 t438.length co71)) (fun _ hk => hk.2) (.int .i64 t441)) (fun _ hk => hk.2) (.int .i64 t442)) (fun _ hk => ⟨hk.1.1, ⟨hk.1.2.1, hk.1.2.2⟩⟩)⟩, ⟨by (with_reducible repeat (first | apply Kd.V_alloc | apply Kd.V_drewN | apply Kd.V_drew)); exact Kd.V_mono (Kd.V_far (p := ⟨gb444, 2, none⟩) (Kd.V_far (p := ⟨gb444, 1, none⟩) (Kd.V_far (p := ⟨gb444, 0, none⟩) (Kd.V_mono HO440.out (fun k_ hk => (⟨hk, hk.2.2⟩ : _ ∧ k_ ≠ gb444))) (fun _ hk => hk.2) (.slice Ao71 t438.length co71)) (fun _ hk => hk.2) (.int .i64 t441)) (fun _ hk => hk.2) (.int .i64 t442)) (fun _ hk => ⟨hk.1.1, ⟨hk.1.2.1, hk.1.2.2⟩⟩)⟩, ⟨by (with_reducible repeat (first | refine blk_drewN ?_ _ | refine blk_drew ?_ | refine blk_alloc ?_ _)); refine blk_far ?_ NB421_444.out _; (with_reducible repeat (first | refine blk_drewN ?_ _ | refine blk_drew ?_ | refine blk_alloc ?_ _)); refine blk_far ?_ NB421_444.out _; (with_reducible repeat (first | refine blk_drewN ?_ _ | refine blk_drew ?_ | refine blk_alloc ?_ _)); refine blk_far ?_ NB421_444.out _; (with_reducible repeat (first | refine blk_drewN ?_ _ | refine blk_drew ?_ | refine blk_alloc ?_ _)); exact BK421.out⟩, ⟨by (with_reducible repeat (first | refine blk_drewN ?_ _ | refine blk_drew ?_ | refine blk_alloc ?_ _)); refine blk_put (cs := #[.slice Ao71 t438.length co71, .int .i64 t441, .int .i64 0]) ?_ 2 _ rfl; (with_reducible repeat (first | refine blk_drewN ?_ _ | refine blk_drew ?_ | refine blk_alloc ?_ _)); refine blk_put (cs := #[.slice Ao71 t438.length co71, .int .i64 0, .int .i64 0]) ?_ 1 _ rfl; (with_reducible repeat (first | refine blk_drewN ?_ _ | refine blk_drew ?_ | refine blk_alloc ?_ _)); refine blk_put (cs := #[.slice none 0 0, .int .i64 0, .int .i64 0]) ?_ 0 _ rfl; (with_reducible repeat (first | refine blk_drewN ?_ _ | refine blk_drew ?_ | refine blk_alloc ?_ _)); exact BK444.out⟩, ⟨by repeat (first | (with_reducible first | exact HB.out | apply below_alloc | apply pw_below_drewN | apply below_drew1 | refine below_set ?_ GE421.out | refine below_set ?_ GE444.out) | exact HB.out)⟩⟩
             case rest =>
              clear HC65
              try clear p2
              try clear p4
              try clear q4
              try clear hx4
              try clear c7
              try clear p45
              try clear q45
              try clear hx45
              try clear c76
              try clear c76b0
              try clear c76b1
              try clear c77
              try clear c78
              try clear hx451_0
              try clear p451
              try clear q451
              obtain ⟨kq, x9_64, HA, HJ64, HO_9, HO_422000, HO_445000, BK421, BK444, HB⟩ := hcut
              cases kq with
              | zero => exact absurd HA.out (by simp [remontoirlaw03_RingRows.j4])
              | succ kj64 =>
               have H := HA.out
               clear HA
               simp only [remontoirlaw03_RingRows.j4] at H
               have H' := Aside0.mk H
               clear H
               have hnb89 := NB444_421.out
               have hnc89 := NB421_444.out
               have hcz90_0 : wc.cell? ⟨gb444, 0, none⟩ = some (.slice Ao71 t438.length co71) := (blk_cell BK444.out 0).trans rfl
               have hcz90_1 : wc.cell? ⟨gb444, 1, none⟩ = some (.int .i64 t441) := (blk_cell BK444.out 1).trans rfl
               have hcz90_2 : wc.cell? ⟨gb444, 2, none⟩ = some (.int .i64 t442) := (blk_cell BK444.out 2).trans rfl
               have hfz90_0 := blk_frozen BK444.out 0
               have hfz90_1 := blk_frozen BK444.out 1
               have hfz90_2 := blk_frozen BK444.out 2
               have hcz91_0 : wc.cell? ⟨gb421, 0, none⟩ = some (.slice Ao66 x422000_1.length co66) := (blk_cell BK421.out 0).trans rfl
               have hcz91_1 : wc.cell? ⟨gb421, 1, none⟩ = some (.int .i64 x422001_1) := (blk_cell BK421.out 1).trans rfl
               have hcz91_2 : wc.cell? ⟨gb421, 2, none⟩ = some (.int .i64 x422002_1) := (blk_cell BK421.out 2).trans rfl
               have hfz91_0 := blk_frozen BK421.out 0
               have hfz91_1 := blk_frozen BK421.out 1
               have hfz91_2 := blk_frozen BK421.out 2
               go_wp2
               go_meet
               case rel => exact ⟨_, (x9_64), (t438), (t441), (t442), (.slice Ao71 t438.length co71), H', ⟨by have := HK1.out; have := HJ9.out; have := HJ64.out; first | omega | exact Nat.le_refl _⟩, ⟨by (with_reducible repeat (first | apply Kd.Q_alloc | apply Kd.Q_drewN | apply Kd.Q_drew)); exact Kd.Q_mono (Kd.Q_far (p := ⟨gb421, 2, none⟩) (Kd.Q_far (p := ⟨gb421, 1, none⟩) (Kd.Q_far (p := ⟨gb421, 0, none⟩) (Kd.Q_types HO_9.out BK421.out (by decide)) (fun _ hk => hk.2) (.slice Ao71 t438.length co71)) (fun _ hk => hk.2) (.int .i64 t441)) (fun _ hk => hk.2) (.int .i64 t442)) (fun _ hk => trivial)⟩, ⟨by (with_reducible repeat (first | apply Kd.V_alloc | apply Kd.V_drewN | apply Kd.V_drew)); exact Kd.V_mono (Kd.V_far (p := ⟨gb421, 2, none⟩) (Kd.V_far (p := ⟨gb421, 1, none⟩) (Kd.V_far (p := ⟨gb421, 0, none⟩) (Kd.V_mono HO_445000.out (fun k_ hk => (⟨hk, hk.2.1⟩ : _ ∧ k_ ≠ gb421))) (fun _ hk => hk.2) (.slice Ao71 t438.length co71)) (fun _ hk => hk.2) (.int .i64 t441)) (fun _ hk => hk.2) (.int .i64 t442)) (fun _ hk => ⟨hk.1.1, hk.1.2.1⟩)⟩, ⟨by (with_reducible repeat (first | refine blk_drewN ?_ _ | refine blk_drew ?_ | refine blk_alloc ?_ _)); refine blk_put (cs := #[.slice Ao71 t438.length co71, .int .i64 t441, .int .i64 x422002_1]) ?_ 2 _ rfl; (with_reducible repeat (first | refine blk_drewN ?_ _ | refine blk_drew ?_ | refine blk_alloc ?_ _)); refine blk_put (cs := #[.slice Ao71 t438.length co71, .int .i64 x422001_1, .int .i64 x422002_1]) ?_ 1 _ rfl; (with_reducible repeat (first | refine blk_drewN ?_ _ | refine blk_drew ?_ | refine blk_alloc ?_ _)); refine blk_put (cs := #[.slice Ao66 x422000_1.length co66, .int .i64 x422001_1, .int .i64 x422002_1]) ?_ 0 _ rfl; (with_reducible repeat (first | refine blk_drewN ?_ _ | refine blk_drew ?_ | refine blk_alloc ?_ _)); exact BK421.out⟩, ⟨by repeat (first | (with_reducible first | exact HB.out | apply below_alloc | apply pw_below_drewN | apply below_drew1 | refine below_set ?_ GE421.out | refine below_set ?_ GE444.out) | exact HB.out)⟩⟩
           ·
            rw [if_neg c52] at H
            exact absurd H (by simp)
         ·
          rw [if_neg c16] at H
          exact absurd H (by simp)
        ·
         rw [if_neg c15] at H
         exact absurd H (by simp)
       case rest =>
        clear HC14
        try clear c1
        try clear p2
        try clear p4
        try clear q4
        try clear hx4
        try clear c5
        try clear c7
        try clear c8
        try clear c15
        try clear c16
        try clear p45
        try clear q45
        try clear hx45
        try clear c52
        try clear c76
        try clear c76b0
        try clear c76b1
        try clear c77
        try clear c78
        try clear c89
        try clear hcz90_0
        try clear hcz90_1
        try clear hcz90_2
        try clear hcz91_0
        try clear hcz91_1
        try clear hcz91_2
        try clear hfz90_0
        try clear hfz90_1
        try clear hfz90_2
        try clear hfz91_0
        try clear hfz91_1
        try clear hfz91_2
        try clear hx451_0
        try clear p2
        try clear p4
        try clear p45
        try clear p451
        try clear q4
        try clear q45
        try clear q451
        obtain ⟨kq, x9_13, x422000_13, x422001_13, x422002_13, u422000, HA, HJ13, HO_9, HO_422000, BK421, HB⟩ := hcut
        cases kq with
        | zero => exact absurd HA.out (by simp [remontoirlaw03_RingRows.j5])
        | succ kj13 =>
         have H := HA.out
         clear HA
         simp only [remontoirlaw03_RingRows.j5] at H
         have H' := Aside0.mk H
         clear H
         go_wp2
         go_roundg kj13
         case measure => have := HK1.out; have := HJ9.out; have := HJ13.out; omega
         case rel => exact ⟨(x9_13), (wrap64 (x10_1 + 1)), (x422000_13), (x422001_13), (x422002_13), (u422000), (by first | rfl | (simp; done) | (simp [*]; done)), H', ⟨by have := HK1.out; have := HJ9.out; have := HJ13.out; omega⟩, ⟨by (with_reducible repeat (first | apply Kd.Q_alloc | apply Kd.Q_drewN | apply Kd.Q_drew)); exact HO_9.out⟩, ⟨by (with_reducible repeat (first | apply Kd.V_alloc | apply Kd.V_drewN | apply Kd.V_drew)); exact HO_422000.out⟩, ⟨by (with_reducible repeat (first | refine blk_drewN ?_ _ | refine blk_drew ?_ | refine blk_alloc ?_ _)); exact BK421.out⟩, ⟨by repeat (first | (with_reducible first | exact HB.out | apply below_alloc | apply pw_below_drewN | apply below_drew1 | refine below_set ?_ GE421.out) | exact HB.out)⟩⟩
      ·
       replace c13 := Bool.eq_false_iff.mpr c13
       subst c13
       have H1 : ((ring_List.f kj9 x422000_1 x422001_1 x422002_1).bind fun t458 => ((remontoirref03_SameList.f kj9 t458 x9_1).bind fun t461 => (if t461 = true then ((ring_Right.f kj9 x422000_1 x422001_1 x422002_1).bind fun t462 => (if t462 = true then ((remontoirlaw03_knows.f kj9).bind fun t463 => (remontoirlaw03_RingRows.j6 kj9 t463)) else (remontoirlaw03_RingRows.j6 kj9 false))) else (remontoirlaw03_RingRows.j6 kj9 false)))) = some r := by rw [if_neg (show ¬ (false = true) by decide)] at H; exact H
       clear H
       have H := H1
       clear H1
       have HC92 := Aside0.mk H
       clear H
       go_upto_region 21 with (fail)
       go_cut [6] (fun v6 wc => ∃ (kq : Nat) (x6_91 : Bool), v6 = .bool x6_91 ∧ Aside0 (remontoirlaw03_RingRows.j6 kq x6_91 = some r) ∧ Aside0 (kq ≤ kj9) ∧ Aside0 (Kd.V (Kd.int .i64) 3 wc w.heap.size (fun k_ => k_ ≠ gb421) u422000 x422000_1) ∧ Aside0 (wc.heap[gb421]? = some (.cells #[u422000, .int .i64 x422001_1, .int .i64 x422002_1] 24 (0, 0))) ∧ Aside0 (Below w.heap.size w wc))
       case first =>
        have H := HC92.out
        clear HC92
        replace H := Option.bind_eq_some_iff.mp H
        obtain ⟨t458, A930, H⟩ := H
        replace H : ((remontoirref03_SameList.f kj9 t458 x9_1).bind fun t461 => (if t461 = true then ((ring_Right.f kj9 x422000_1 x422001_1 x422002_1).bind fun t462 => (if t462 = true then ((remontoirlaw03_knows.f kj9).bind fun t463 => (remontoirlaw03_RingRows.j6 kj9 t463)) else (remontoirlaw03_RingRows.j6 kj9 false))) else (remontoirlaw03_RingRows.j6 kj9 false))) = some r := H
        have A93 := Aside0.mk A930
        clear A930
        replace H := Option.bind_eq_some_iff.mp H
        obtain ⟨t461, A940, H⟩ := H
        replace H : (if t461 = true then ((ring_Right.f kj9 x422000_1 x422001_1 x422002_1).bind fun t462 => (if t462 = true then ((remontoirlaw03_knows.f kj9).bind fun t463 => (remontoirlaw03_RingRows.j6 kj9 t463)) else (remontoirlaw03_RingRows.j6 kj9 false))) else (remontoirlaw03_RingRows.j6 kj9 false)) = some r := H
        have A94 := Aside0.mk A940
        clear A940
        by_cases c95 : t461 = true
        ·
         subst c95
         have H1 : ((ring_Right.f kj9 x422000_1 x422001_1 x422002_1).bind fun t462 => (if t462 = true then ((remontoirlaw03_knows.f kj9).bind fun t463 => (remontoirlaw03_RingRows.j6 kj9 t463)) else (remontoirlaw03_RingRows.j6 kj9 false))) = some r := by rw [if_pos rfl] at H; exact H
         clear H
         have H := H1
         clear H1
         replace H := Option.bind_eq_some_iff.mp H
         obtain ⟨t462, A960, H⟩ := H
         replace H : (if t462 = true then ((remontoirlaw03_knows.f kj9).bind fun t463 => (remontoirlaw03_RingRows.j6 kj9 t463)) else (remontoirlaw03_RingRows.j6 kj9 false)) = some r := H
         have A96 := Aside0.mk A960
         clear A960
         by_cases c97 : t462 = true
         ·
          subst c97
          have H1 : ((remontoirlaw03_knows.f kj9).bind fun t463 => (remontoirlaw03_RingRows.j6 kj9 t463)) = some r := by rw [if_pos rfl] at H; exact H
          clear H
          have H := H1
          clear H1
          replace H := Option.bind_eq_some_iff.mp H
          obtain ⟨t463, A980, H⟩ := H
          replace H : (remontoirlaw03_RingRows.j6 kj9 t463) = some r := H
          have A98 := Aside0.mk A980
          clear A980
          have H' := Aside0.mk H
          clear H
          have hcz99_0 : wc.cell? ⟨gb421, 0, none⟩ = some (u422000) := (blk_cell BK421.out 0).trans rfl
          have hcz99_1 : wc.cell? ⟨gb421, 1, none⟩ = some (.int .i64 x422001_1) := (blk_cell BK421.out 1).trans rfl
          have hcz99_2 : wc.cell? ⟨gb421, 2, none⟩ = some (.int .i64 x422002_1) := (blk_cell BK421.out 2).trans rfl
          have hfz99_0 := blk_frozen BK421.out 0
          have hfz99_1 := blk_frozen BK421.out 1
          have hfz99_2 := blk_frozen BK421.out 2
          obtain ⟨Ao100, co100, eo100⟩ := Kd.V_slice HO_422000.out
          subst eo100
          go_wp2_with (first | ((with_reducible refine gate_callee (f := 16) rfl ?_); refine goesL_ (some 114) rfl rfl Try.func16 (by kernel_rfl) rfl #[.agg #[.slice Ao100 x422000_1.length co100, .int .i64 x422001_1, .int .i64 x422002_1]] rfl (by (try simp only [List.map_toArray, List.map_cons, List.map_nil]); first | done | rfl | (simp only [List.length_drop, List.length_take]; rfl)) ?_; (with_reducible refine (ring_List.calls kj9 _ _ x422000_1 x422001_1 x422002_1 t458 _ ?side1 ?side2 A93.out).mono ?_); (case side1 => repeat (first | exact (Kd.V_reads' HO_422000.out).2.2 | (with_reducible refine Kd.C_alloc ?_ _) | (with_reducible refine Kd.C_drewN ?_ _) | (with_reducible refine Kd.C_drew ?_))); (case side2 => exact (Kd.V_reads' HO_422000.out).2.1); rintro e w101 ⟨v459, rfl, ho0, hb⟩; refine ⟨_, rfl, ?_⟩; have n0_ := Aside0.mk (Kd.Q_elder' (by (with_reducible repeat (first | apply Kd.Q_alloc | apply Kd.Q_drewN | apply Kd.Q_drew)); exact HO_9.out) (Kd.R_base ho0) hb); have n1_ := Aside0.mk (Kd.V_elder' (by (with_reducible repeat (first | apply Kd.V_alloc | apply Kd.V_drewN | apply Kd.V_drew)); exact HO_422000.out) (Kd.R_base ho0) hb); have n2_ := Aside0.mk (Kd.R_lower (Kd.R_new' ho0 (Kd.Q_lt (by (with_reducible repeat (first | apply Kd.Q_alloc | apply Kd.Q_drewN | apply Kd.Q_drew)); exact HO_9.out))) (below_size (by repeat (first | (with_reducible first | exact HB.out | apply below_alloc | apply pw_below_drewN | apply below_drew1 | refine below_set ?_ GE421.out) | exact HB.out)))); have n3_ := Aside0.mk (blk_below (g := gb421) (o := .cells #[.slice Ao100 x422000_1.length co100, .int .i64 x422001_1, .int .i64 x422002_1] 24 (0, 0)) (by (with_reducible repeat (first | refine blk_drewN ?_ _ | refine blk_drew ?_ | refine blk_alloc ?_ _)); exact BK421.out) hb); have n4_ := Aside0.mk (below_step (by repeat (first | (with_reducible first | exact HB.out | apply below_alloc | apply pw_below_drewN | apply below_drew1 | refine below_set ?_ GE421.out) | exact HB.out)) hb); clear HO_9; clear HO_422000; clear BK421; clear HB; have HO_9 := n0_; have HO_422000 := n1_; have HO460 := n2_; have BK421 := n3_; have HB := n4_; clear n0_ n1_ n2_ n3_ n4_; (try clear hb); (try clear hb2); (try clear hk); (try clear hi); (try clear ho0); obtain ⟨Ao102, co102, eo102⟩ := Kd.R_slice HO460.out; subst eo102; obtain ⟨Ao103, co103, eo103, _⟩ := Kd.Q_slice HO_9.out; subst eo103) | ((with_reducible refine gate_callee (f := 18) rfl ?_); refine goesL_ (some 116) rfl rfl Try.func18 (by kernel_rfl) rfl #[.slice Ao102 t458.length co102, .slice Ao103 x9_1.length co103] rfl (by (try simp only [List.map_toArray, List.map_cons, List.map_nil]); first | done | rfl | (simp only [List.length_drop, List.length_take]; rfl)) ?_; (with_reducible refine (remontoirref03_SameList.calls kj9 _ _ t458 _ _ x9_1 true _ ?side1 ?side2 ?side3 ?side4 A94.out).mono ?_); (case side1 => repeat (first | exact (Kd.R_reads' HO460.out).2.2 | (with_reducible refine Kd.C_alloc ?_ _) | (with_reducible refine Kd.C_drewN ?_ _) | (with_reducible refine Kd.C_drew ?_))); (case side2 => exact (Kd.R_reads' HO460.out).2.1); (case side3 => repeat (first | exact (Kd.Q_reads' HO_9.out).2.2 | (with_reducible refine Kd.C_alloc ?_ _) | (with_reducible refine Kd.C_drewN ?_ _) | (with_reducible refine Kd.C_drew ?_))); (case side4 => exact (Kd.Q_reads' HO_9.out).2.1); rintro e w' ⟨rfl, ⟨nd, rfl⟩⟩; refine ⟨_, rfl, ?_⟩; have hcz104_0 : w101.cell? ⟨gb421, 0, none⟩ = some (.slice Ao100 x422000_1.length co100) := (blk_cell BK421.out 0).trans rfl; have hcz104_1 : w101.cell? ⟨gb421, 1, none⟩ = some (.int .i64 x422001_1) := (blk_cell BK421.out 1).trans rfl; have hcz104_2 : w101.cell? ⟨gb421, 2, none⟩ = some (.int .i64 x422002_1) := (blk_cell BK421.out 2).trans rfl; have hfz104_0 := blk_frozen BK421.out 0; have hfz104_1 := blk_frozen BK421.out 1; have hfz104_2 := blk_frozen BK421.out 2) | (go_at_call 17; (with_reducible refine (ring_Right.calls kj9 _ _ x422000_1 x422001_1 x422002_1 true _ ?side1 ?side2 A96.out).mono ?_); (case side1 => repeat (first | exact (Kd.V_reads' HO_422000.out).2.2 | (with_reducible refine Kd.C_alloc ?_ _) | (with_reducible refine Kd.C_drewN ?_ _) | (with_reducible refine Kd.C_drew ?_))); (case side2 => exact (Kd.V_reads' HO_422000.out).2.1); rintro e w105 ⟨rfl, hb⟩; have n0_ := Aside0.mk (Kd.Q_below (by (with_reducible repeat (first | apply Kd.Q_alloc | apply Kd.Q_drewN | apply Kd.Q_drew)); exact HO_9.out) hb); have n1_ := Aside0.mk (Kd.V_below (by (with_reducible repeat (first | apply Kd.V_alloc | apply Kd.V_drewN | apply Kd.V_drew)); exact HO_422000.out) hb); have n2_ := Aside0.mk (Kd.R_below (by (with_reducible repeat (first | apply Kd.R_alloc | apply Kd.R_drewN | apply Kd.R_drew)); exact HO460.out) hb); have n3_ := Aside0.mk (blk_below (g := gb421) (o := .cells #[.slice Ao100 x422000_1.length co100, .int .i64 x422001_1, .int .i64 x422002_1] 24 (0, 0)) (by (with_reducible repeat (first | refine blk_drewN ?_ _ | refine blk_drew ?_ | refine blk_alloc ?_ _)); exact BK421.out) hb); have n4_ := Aside0.mk (below_step (by repeat (first | (with_reducible first | exact HB.out | apply below_alloc | apply pw_below_drewN | apply below_drew1 | refine below_set ?_ GE421.out) | exact HB.out)) hb); clear HO_9; clear HO_422000; clear HO460; clear BK421; clear HB; have HO_9 := n0_; have HO_422000 := n1_; have HO460 := n2_; have BK421 := n3_; have HB := n4_; clear n0_ n1_ n2_ n3_ n4_; (try clear hb); (try clear hb2); (try clear hk); (try clear hi)) | (go_at_call 12; (with_reducible refine (remontoirlaw03_knows.calls kj9  t463 _ A98.out).mono ?_); rintro e w106 ⟨rfl, hb⟩; have n0_ := Aside0.mk (Kd.Q_below (by (with_reducible repeat (first | apply Kd.Q_alloc | apply Kd.Q_drewN | apply Kd.Q_drew)); exact HO_9.out) hb); have n1_ := Aside0.mk (Kd.V_below (by (with_reducible repeat (first | apply Kd.V_alloc | apply Kd.V_drewN | apply Kd.V_drew)); exact HO_422000.out) hb); have n2_ := Aside0.mk (Kd.R_below (by (with_reducible repeat (first | apply Kd.R_alloc | apply Kd.R_drewN | apply Kd.R_drew)); exact HO460.out) hb); have n3_ := Aside0.mk (blk_below (g := gb421) (o := .cells #[.slice Ao100 x422000_1.length co100, .int .i64 x422001_1, .int .i64 x422002_1] 24 (0, 0)) (by (with_reducible repeat (first | refine blk_drewN ?_ _ | refine blk_drew ?_ | refine blk_alloc ?_ _)); exact BK421.out) hb); have n4_ := Aside0.mk (below_step (by repeat (first | (with_reducible first | exact HB.out | apply below_alloc | apply pw_below_drewN | apply below_drew1 | refine below_set ?_ GE421.out) | exact HB.out)) hb); clear HO_9; clear HO_422000; clear HO460; clear BK421; clear HB; have HO_9 := n0_; have HO_422000 := n1_; have HO460 := n2_; have BK421 := n3_; have HB := n4_; clear n0_ n1_ n2_ n3_ n4_; (try clear hb); (try clear hb2); (try clear hk); (try clear hi)))
          go_meet
          case rel => exact ⟨_, (t463), (by first | rfl | (simp; done) | (simp [*]; done)), H', ⟨by have := HK1.out; have := HJ9.out; first | omega | exact Nat.le_refl _⟩, ⟨by (with_reducible repeat (first | apply Kd.V_alloc | apply Kd.V_drewN | apply Kd.V_drew)); exact Kd.V_mono HO_422000.out (fun _ hk => hk.1.2)⟩, ⟨by (with_reducible repeat (first | refine blk_drewN ?_ _ | refine blk_drew ?_ | refine blk_alloc ?_ _)); exact BK421.out⟩, ⟨by repeat (first | (with_reducible first | exact HB.out | apply below_alloc | apply pw_below_drewN | apply below_drew1 | refine below_set ?_ GE421.out) | exact HB.out)⟩⟩
         ·
          replace c97 := Bool.eq_false_iff.mpr c97
          subst c97
          have H1 : (remontoirlaw03_RingRows.j6 kj9 false) = some r := by rw [if_neg (show ¬ (false = true) by decide)] at H; exact H
          clear H
          have H := H1
          clear H1
          have H' := Aside0.mk H
          clear H
          have hcz107_0 : wc.cell? ⟨gb421, 0, none⟩ = some (u422000) := (blk_cell BK421.out 0).trans rfl
          have hcz107_1 : wc.cell? ⟨gb421, 1, none⟩ = some (.int .i64 x422001_1) := (blk_cell BK421.out 1).trans rfl
          have hcz107_2 : wc.cell? ⟨gb421, 2, none⟩ = some (.int .i64 x422002_1) := (blk_cell BK421.out 2).trans rfl
          have hfz107_0 := blk_frozen BK421.out 0
          have hfz107_1 := blk_frozen BK421.out 1
          have hfz107_2 := blk_frozen BK421.out 2
          obtain ⟨Ao108, co108, eo108⟩ := Kd.V_slice HO_422000.out
          subst eo108
          go_wp2_with (first | ((with_reducible refine gate_callee (f := 16) rfl ?_); refine goesL_ (some 114) rfl rfl Try.func16 (by kernel_rfl) rfl #[.agg #[.slice Ao108 x422000_1.length co108, .int .i64 x422001_1, .int .i64 x422002_1]] rfl (by (try simp only [List.map_toArray, List.map_cons, List.map_nil]); first | done | rfl | (simp only [List.length_drop, List.length_take]; rfl)) ?_; (with_reducible refine (ring_List.calls kj9 _ _ x422000_1 x422001_1 x422002_1 t458 _ ?side1 ?side2 A93.out).mono ?_); (case side1 => repeat (first | exact (Kd.V_reads' HO_422000.out).2.2 | (with_reducible refine Kd.C_alloc ?_ _) | (with_reducible refine Kd.C_drewN ?_ _) | (with_reducible refine Kd.C_drew ?_))); (case side2 => exact (Kd.V_reads' HO_422000.out).2.1); rintro e w109 ⟨v459, rfl, ho0, hb⟩; refine ⟨_, rfl, ?_⟩; have n0_ := Aside0.mk (Kd.Q_elder' (by (with_reducible repeat (first | apply Kd.Q_alloc | apply Kd.Q_drewN | apply Kd.Q_drew)); exact HO_9.out) (Kd.R_base ho0) hb); have n1_ := Aside0.mk (Kd.V_elder' (by (with_reducible repeat (first | apply Kd.V_alloc | apply Kd.V_drewN | apply Kd.V_drew)); exact HO_422000.out) (Kd.R_base ho0) hb); have n2_ := Aside0.mk (Kd.R_lower (Kd.R_new' ho0 (Kd.Q_lt (by (with_reducible repeat (first | apply Kd.Q_alloc | apply Kd.Q_drewN | apply Kd.Q_drew)); exact HO_9.out))) (below_size (by repeat (first | (with_reducible first | exact HB.out | apply below_alloc | apply pw_below_drewN | apply below_drew1 | refine below_set ?_ GE421.out) | exact HB.out)))); have n3_ := Aside0.mk (blk_below (g := gb421) (o := .cells #[.slice Ao108 x422000_1.length co108, .int .i64 x422001_1, .int .i64 x422002_1] 24 (0, 0)) (by (with_reducible repeat (first | refine blk_drewN ?_ _ | refine blk_drew ?_ | refine blk_alloc ?_ _)); exact BK421.out) hb); have n4_ := Aside0.mk (below_step (by repeat (first | (with_reducible first | exact HB.out | apply below_alloc | apply pw_below_drewN | apply below_drew1 | refine below_set ?_ GE421.out) | exact HB.out)) hb); clear HO_9; clear HO_422000; clear BK421; clear HB; have HO_9 := n0_; have HO_422000 := n1_; have HO460 := n2_; have BK421 := n3_; have HB := n4_; clear n0_ n1_ n2_ n3_ n4_; (try clear hb); (try clear hb2); (try clear hk); (try clear hi); (try clear ho0); obtain ⟨Ao110, co110, eo110⟩ := Kd.R_slice HO460.out; subst eo110; obtain ⟨Ao111, co111, eo111, _⟩ := Kd.Q_slice HO_9.out; subst eo111) | ((with_reducible refine gate_callee (f := 18) rfl ?_); refine goesL_ (some 116) rfl rfl Try.func18 (by kernel_rfl) rfl #[.slice Ao110 t458.length co110, .slice Ao111 x9_1.length co111] rfl (by (try simp only [List.map_toArray, List.map_cons, List.map_nil]); first | done | rfl | (simp only [List.length_drop, List.length_take]; rfl)) ?_; (with_reducible refine (remontoirref03_SameList.calls kj9 _ _ t458 _ _ x9_1 true _ ?side1 ?side2 ?side3 ?side4 A94.out).mono ?_); (case side1 => repeat (first | exact (Kd.R_reads' HO460.out).2.2 | (with_reducible refine Kd.C_alloc ?_ _) | (with_reducible refine Kd.C_drewN ?_ _) | (with_reducible refine Kd.C_drew ?_))); (case side2 => exact (Kd.R_reads' HO460.out).2.1); (case side3 => repeat (first | exact (Kd.Q_reads' HO_9.out).2.2 | (with_reducible refine Kd.C_alloc ?_ _) | (with_reducible refine Kd.C_drewN ?_ _) | (with_reducible refine Kd.C_drew ?_))); (case side4 => exact (Kd.Q_reads' HO_9.out).2.1); rintro e w' ⟨rfl, ⟨nd, rfl⟩⟩; refine ⟨_, rfl, ?_⟩; have hcz112_0 : w109.cell? ⟨gb421, 0, none⟩ = some (.slice Ao108 x422000_1.length co108) := (blk_cell BK421.out 0).trans rfl; have hcz112_1 : w109.cell? ⟨gb421, 1, none⟩ = some (.int .i64 x422001_1) := (blk_cell BK421.out 1).trans rfl; have hcz112_2 : w109.cell? ⟨gb421, 2, none⟩ = some (.int .i64 x422002_1) := (blk_cell BK421.out 2).trans rfl; have hfz112_0 := blk_frozen BK421.out 0; have hfz112_1 := blk_frozen BK421.out 1; have hfz112_2 := blk_frozen BK421.out 2) | (go_at_call 17; (with_reducible refine (ring_Right.calls kj9 _ _ x422000_1 x422001_1 x422002_1 false _ ?side1 ?side2 A96.out).mono ?_); (case side1 => repeat (first | exact (Kd.V_reads' HO_422000.out).2.2 | (with_reducible refine Kd.C_alloc ?_ _) | (with_reducible refine Kd.C_drewN ?_ _) | (with_reducible refine Kd.C_drew ?_))); (case side2 => exact (Kd.V_reads' HO_422000.out).2.1); rintro e w113 ⟨rfl, hb⟩; have n0_ := Aside0.mk (Kd.Q_below (by (with_reducible repeat (first | apply Kd.Q_alloc | apply Kd.Q_drewN | apply Kd.Q_drew)); exact HO_9.out) hb); have n1_ := Aside0.mk (Kd.V_below (by (with_reducible repeat (first | apply Kd.V_alloc | apply Kd.V_drewN | apply Kd.V_drew)); exact HO_422000.out) hb); have n2_ := Aside0.mk (Kd.R_below (by (with_reducible repeat (first | apply Kd.R_alloc | apply Kd.R_drewN | apply Kd.R_drew)); exact HO460.out) hb); have n3_ := Aside0.mk (blk_below (g := gb421) (o := .cells #[.slice Ao108 x422000_1.length co108, .int .i64 x422001_1, .int .i64 x422002_1] 24 (0, 0)) (by (with_reducible repeat (first | refine blk_drewN ?_ _ | refine blk_drew ?_ | refine blk_alloc ?_ _)); exact BK421.out) hb); have n4_ := Aside0.mk (below_step (by repeat (first | (with_reducible first | exact HB.out | apply below_alloc | apply pw_below_drewN | apply below_drew1 | refine below_set ?_ GE421.out) | exact HB.out)) hb); clear HO_9; clear HO_422000; clear HO460; clear BK421; clear HB; have HO_9 := n0_; have HO_422000 := n1_; have HO460 := n2_; have BK421 := n3_; have HB := n4_; clear n0_ n1_ n2_ n3_ n4_; (try clear hb); (try clear hb2); (try clear hk); (try clear hi)))
          go_meet
          case rel => exact ⟨_, (false), (by first | rfl | (simp; done) | (simp [*]; done)), H', ⟨by have := HK1.out; have := HJ9.out; first | omega | exact Nat.le_refl _⟩, ⟨by (with_reducible repeat (first | apply Kd.V_alloc | apply Kd.V_drewN | apply Kd.V_drew)); exact Kd.V_mono HO_422000.out (fun _ hk => hk.1.2)⟩, ⟨by (with_reducible repeat (first | refine blk_drewN ?_ _ | refine blk_drew ?_ | refine blk_alloc ?_ _)); exact BK421.out⟩, ⟨by repeat (first | (with_reducible first | exact HB.out | apply below_alloc | apply pw_below_drewN | apply below_drew1 | refine below_set ?_ GE421.out) | exact HB.out)⟩⟩
        ·
         replace c95 := Bool.eq_false_iff.mpr c95
         subst c95
         have H1 : (remontoirlaw03_RingRows.j6 kj9 false) = some r := by rw [if_neg (show ¬ (false = true) by decide)] at H; exact H
         clear H
         have H := H1
         clear H1
         have H' := Aside0.mk H
         clear H
         have hcz114_0 : wc.cell? ⟨gb421, 0, none⟩ = some (u422000) := (blk_cell BK421.out 0).trans rfl
         have hcz114_1 : wc.cell? ⟨gb421, 1, none⟩ = some (.int .i64 x422001_1) := (blk_cell BK421.out 1).trans rfl
         have hcz114_2 : wc.cell? ⟨gb421, 2, none⟩ = some (.int .i64 x422002_1) := (blk_cell BK421.out 2).trans rfl
         have hfz114_0 := blk_frozen BK421.out 0
         have hfz114_1 := blk_frozen BK421.out 1
         have hfz114_2 := blk_frozen BK421.out 2
         obtain ⟨Ao115, co115, eo115⟩ := Kd.V_slice HO_422000.out
         subst eo115
         go_wp2_with (first | ((with_reducible refine gate_callee (f := 16) rfl ?_); refine goesL_ (some 114) rfl rfl Try.func16 (by kernel_rfl) rfl #[.agg #[.slice Ao115 x422000_1.length co115, .int .i64 x422001_1, .int .i64 x422002_1]] rfl (by (try simp only [List.map_toArray, List.map_cons, List.map_nil]); first | done | rfl | (simp only [List.length_drop, List.length_take]; rfl)) ?_; (with_reducible refine (ring_List.calls kj9 _ _ x422000_1 x422001_1 x422002_1 t458 _ ?side1 ?side2 A93.out).mono ?_); (case side1 => repeat (first | exact (Kd.V_reads' HO_422000.out).2.2 | (with_reducible refine Kd.C_alloc ?_ _) | (with_reducible refine Kd.C_drewN ?_ _) | (with_reducible refine Kd.C_drew ?_))); (case side2 => exact (Kd.V_reads' HO_422000.out).2.1); rintro e w116 ⟨v459, rfl, ho0, hb⟩; refine ⟨_, rfl, ?_⟩; have n0_ := Aside0.mk (Kd.Q_elder' (by (with_reducible repeat (first | apply Kd.Q_alloc | apply Kd.Q_drewN | apply Kd.Q_drew)); exact HO_9.out) (Kd.R_base ho0) hb); have n1_ := Aside0.mk (Kd.V_elder' (by (with_reducible repeat (first | apply Kd.V_alloc | apply Kd.V_drewN | apply Kd.V_drew)); exact HO_422000.out) (Kd.R_base ho0) hb); have n2_ := Aside0.mk (Kd.R_lower (Kd.R_new' ho0 (Kd.Q_lt (by (with_reducible repeat (first | apply Kd.Q_alloc | apply Kd.Q_drewN | apply Kd.Q_drew)); exact HO_9.out))) (below_size (by repeat (first | (with_reducible first | exact HB.out | apply below_alloc | apply pw_below_drewN | apply below_drew1 | refine below_set ?_ GE421.out) | exact HB.out)))); have n3_ := Aside0.mk (blk_below (g := gb421) (o := .cells #[.slice Ao115 x422000_1.length co115, .int .i64 x422001_1, .int .i64 x422002_1] 24 (0, 0)) (by (with_reducible repeat (first | refine blk_drewN ?_ _ | refine blk_drew ?_ | refine blk_alloc ?_ _)); exact BK421.out) hb); have n4_ := Aside0.mk (below_step (by repeat (first | (with_reducible first | exact HB.out | apply below_alloc | apply pw_below_drewN | apply below_drew1 | refine below_set ?_ GE421.out) | exact HB.out)) hb); clear HO_9; clear HO_422000; clear BK421; clear HB; have HO_9 := n0_; have HO_422000 := n1_; have HO460 := n2_; have BK421 := n3_; have HB := n4_; clear n0_ n1_ n2_ n3_ n4_; (try clear hb); (try clear hb2); (try clear hk); (try clear hi); (try clear ho0); obtain ⟨Ao117, co117, eo117⟩ := Kd.R_slice HO460.out; subst eo117; obtain ⟨Ao118, co118, eo118, _⟩ := Kd.Q_slice HO_9.out; subst eo118) | ((with_reducible refine gate_callee (f := 18) rfl ?_); refine goesL_ (some 116) rfl rfl Try.func18 (by kernel_rfl) rfl #[.slice Ao117 t458.length co117, .slice Ao118 x9_1.length co118] rfl (by (try simp only [List.map_toArray, List.map_cons, List.map_nil]); first | done | rfl | (simp only [List.length_drop, List.length_take]; rfl)) ?_; (with_reducible refine (remontoirref03_SameList.calls kj9 _ _ t458 _ _ x9_1 false _ ?side1 ?side2 ?side3 ?side4 A94.out).mono ?_); (case side1 => repeat (first | exact (Kd.R_reads' HO460.out).2.2 | (with_reducible refine Kd.C_alloc ?_ _) | (with_reducible refine Kd.C_drewN ?_ _) | (with_reducible refine Kd.C_drew ?_))); (case side2 => exact (Kd.R_reads' HO460.out).2.1); (case side3 => repeat (first | exact (Kd.Q_reads' HO_9.out).2.2 | (with_reducible refine Kd.C_alloc ?_ _) | (with_reducible refine Kd.C_drewN ?_ _) | (with_reducible refine Kd.C_drew ?_))); (case side4 => exact (Kd.Q_reads' HO_9.out).2.1); rintro e w' ⟨rfl, ⟨nd, rfl⟩⟩; refine ⟨_, rfl, ?_⟩))
         go_meet
         case rel => exact ⟨_, (false), (by first | rfl | (simp; done) | (simp [*]; done)), H', ⟨by have := HK1.out; have := HJ9.out; first | omega | exact Nat.le_refl _⟩, ⟨by (with_reducible repeat (first | apply Kd.V_alloc | apply Kd.V_drewN | apply Kd.V_drew)); exact Kd.V_mono HO_422000.out (fun _ hk => hk.1.2)⟩, ⟨by (with_reducible repeat (first | refine blk_drewN ?_ _ | refine blk_drew ?_ | refine blk_alloc ?_ _)); exact BK421.out⟩, ⟨by repeat (first | (with_reducible first | exact HB.out | apply below_alloc | apply pw_below_drewN | apply below_drew1 | refine below_set ?_ GE421.out) | exact HB.out)⟩⟩
       case rest =>
        clear HC92
        try clear c1
        try clear p2
        try clear p4
        try clear q4
        try clear hx4
        try clear c5
        try clear p6
        try clear c7
        try clear c8
        try clear c9
        try clear c13
        try clear c15
        try clear c16
        try clear c18
        try clear p45
        try clear q45
        try clear hx45
        try clear c52
        try clear p64
        try clear c76
        try clear c76b0
        try clear c76b1
        try clear c77
        try clear c78
        try clear c89
        try clear c95
        try clear c97
        try clear hcz104_0
        try clear hcz104_1
        try clear hcz104_2
        try clear hcz107_0
        try clear hcz107_1
        try clear hcz107_2
        try clear hcz112_0
        try clear hcz112_1
        try clear hcz112_2
        try clear hcz114_0
        try clear hcz114_1
        try clear hcz114_2
        try clear hcz90_0
        try clear hcz90_1
        try clear hcz90_2
        try clear hcz91_0
        try clear hcz91_1
        try clear hcz91_2
        try clear hcz99_0
        try clear hcz99_1
        try clear hcz99_2
        try clear hfz104_0
        try clear hfz104_1
        try clear hfz104_2
        try clear hfz107_0
        try clear hfz107_1
        try clear hfz107_2
        try clear hfz112_0
        try clear hfz112_1
        try clear hfz112_2
        try clear hfz114_0
        try clear hfz114_1
        try clear hfz114_2
        try clear hfz90_0
        try clear hfz90_1
        try clear hfz90_2
        try clear hfz91_0
        try clear hfz91_1
        try clear hfz91_2
        try clear hfz99_0
        try clear hfz99_1
        try clear hfz99_2
        try clear hx451_0
        try clear p2
        try clear p4
        try clear p45
        try clear p451
        try clear q4
        try clear q45
        try clear q451
        obtain ⟨kq, x6_91, rfl, HA, HJ91, HO_422000, BK421, HB⟩ := hcut
        cases kq with
        | zero => exact absurd HA.out (by simp [remontoirlaw03_RingRows.j6])
        | succ kj91 =>
         have H := HA.out
         clear HA
         simp only [remontoirlaw03_RingRows.j6] at H
         obtain rfl := Option.some.inj H
         go_wp2
         go_ret
         exact ⟨by first | rfl | (rw [HR_.out] <;> rfl) | (simp [errW_none, errW_some] <;> rfl) | (simp [*, errW_none, errW_some] <;> rfl), by repeat (first | (with_reducible first | exact HB.out | apply below_alloc | apply pw_below_drewN | apply below_drew1 | refine below_set ?_ GE421.out) | exact HB.out)⟩
 ·
  rw [if_neg c5] at H
  have c5b0 : (t420 == 0) = false := beq_eq_false_iff_ne.mpr c5
  have c5b1 : (t420 != 0) = true := bne_iff_ne.mpr c5
  by_cases c119 : (t415.length : Int) = 0
  ·
   rw [if_pos c119] at H
   have c119b0 : ((t415.length : Int) == 0) = true := beq_iff_eq.mpr c119
   have c119b1 : ((t415.length : Int) != 0) = false := bne_eq_false_iff_eq.mpr c119
   clear c119
   replace H := Option.bind_eq_some_iff.mp H
   obtain ⟨t422, A1200, H⟩ := H
   replace H : (some t422) = some r := H
   have A120 := Aside0.mk A1200
   clear A1200
   obtain rfl := Option.some.inj H
   go_enter Try.func7, Try.ntmps7
   go_wp2_with (first | ((with_reducible refine gate_callee (f := 13) rfl ?_); refine goesL_ (some 18) rfl rfl Try.func13 (by kernel_rfl) rfl #[.int .i64 a0] rfl (by (try simp only [List.map_toArray, List.map_cons, List.map_nil]); first | done | rfl | (simp only [List.length_drop, List.length_take]; rfl)) ?_; (with_reducible refine (ring_New.calls a0 t415 t418 t419 t420 _ A4.out).mono ?_); rintro e w121 ⟨v416, rfl, ho0, hb⟩; refine ⟨_, rfl, ?_⟩; have n0_ := Aside0.mk (Kd.R_lower ho0 (below_size (by repeat (first | (with_reducible first | exact HB.out | apply below_alloc | apply pw_below_drewN | apply below_drew1) | exact HB.out)))); have n1_ := Aside0.mk (below_step (by repeat (first | (with_reducible first | exact HB.out | apply below_alloc | apply pw_below_drewN | apply below_drew1) | exact HB.out)) hb); clear HB; have HO417 := n0_; have HB := n1_; clear n0_ n1_; (try clear hb); (try clear hb2); (try clear hk); (try clear hi); (try clear ho0)) | ((with_reducible refine gate_dst (N := 7) rfl ?_); (try (refine gate_guard (by rfl) ?_; dsimp only)); refine box_event ?hg (N := 7) ?hd (cs := #[.slice none 0 0, .int .i64 0, .int .i64 0]) (t := 24) ?hr ?_; (case hd => rfl); (case hg => rfl); (case hr => first | (go_simp; done) | (go_simp; rfl)); intro gb421 hg w122 hbox hb; have n0_ := Aside0.mk (Kd.R_below (by (with_reducible repeat (first | apply Kd.R_alloc | apply Kd.R_drewN | apply Kd.R_drew)); exact HO417.out) hb); have n1_ := Aside0.mk (below_step (by repeat (first | (with_reducible first | exact HB.out | apply below_alloc | apply pw_below_drewN | apply below_drew1) | exact HB.out)) hb); have n2_ := Aside0.mk (hbox); have n3_ := Aside0.mk ((by rw [hg]; exact (below_size (by repeat (first | (with_reducible first | exact HB.out | apply below_alloc | apply pw_below_drewN | apply below_drew1) | exact HB.out))) : w.heap.size ≤ gb421)); have n4_ := Aside0.mk ((by rw [hg]; exact (below_size (by repeat (first | (with_reducible first | exact HB.out | apply below_alloc | apply pw_below_drewN | apply below_drew1) | exact HB.out))) : w.heap.size ≤ gb421)); clear HO417; clear HB; have HO417 := n0_; have HB := n1_; have BK421 := n2_; have GW421 := n3_; have GE421 := n4_; clear n0_ n1_ n2_ n3_ n4_; clear hb hbox hg; obtain ⟨Ao123, co123, eo123⟩ := Kd.R_slice HO417.out; subst eo123; have hcz124_0 : w122.cell? ⟨gb421, 0, none⟩ = some (.slice none 0 0) := (blk_cell BK421.out 0).trans rfl; have hcz124_1 : w122.cell? ⟨gb421, 1, none⟩ = some (.int .i64 0) := (blk_cell BK421.out 1).trans rfl; have hcz124_2 : w122.cell? ⟨gb421, 2, none⟩ = some (.int .i64 0) := (blk_cell BK421.out 2).trans rfl; have hfz124_0 := blk_frozen BK421.out 0; have hfz124_1 := blk_frozen BK421.out 1; have hfz124_2 := blk_frozen BK421.out 2) | (go_at_call 12; (with_reducible refine (remontoirlaw03_knows.calls k  t422 _ A120.out).mono ?_); rintro e w125 ⟨rfl, hb⟩; have n0_ := Aside0.mk (Kd.R_below (by (with_reducible repeat (first | apply Kd.R_alloc | apply Kd.R_drewN | apply Kd.R_drew)); exact (Kd.R_mono (Kd.R_far (p := ⟨gb421, 2, none⟩) (Kd.R_far (p := ⟨gb421, 1, none⟩) (Kd.R_far (p := ⟨gb421, 0, none⟩) (Kd.R_types HO417.out BK421.out (by decide)) (fun _ hk => hk.2) (.slice Ao123 t415.length co123)) (fun _ hk => hk.2) (.int .i64 t418)) (fun _ hk => hk.2) (.int .i64 t419)) (fun _ h_ => h_.1))) hb); have n1_ := Aside0.mk (blk_below (g := gb421) (o := .cells #[.slice Ao123 t415.length co123, .int .i64 t418, .int .i64 t419] 24 (0, 0)) (by (with_reducible repeat (first | refine blk_drewN ?_ _ | refine blk_drew ?_ | refine blk_alloc ?_ _)); refine blk_put (cs := #[.slice Ao123 t415.length co123, .int .i64 t418, .int .i64 0]) ?_ 2 _ rfl; (with_reducible repeat (first | refine blk_drewN ?_ _ | refine blk_drew ?_ | refine blk_alloc ?_ _)); refine blk_put (cs := #[.slice Ao123 t415.length co123, .int .i64 0, .int .i64 0]) ?_ 1 _ rfl; (with_reducible repeat (first | refine blk_drewN ?_ _ | refine blk_drew ?_ | refine blk_alloc ?_ _)); refine blk_put (cs := #[.slice none 0 0, .int .i64 0, .int .i64 0]) ?_ 0 _ rfl; (with_reducible repeat (first | refine blk_drewN ?_ _ | refine blk_drew ?_ | refine blk_alloc ?_ _)); exact BK421.out) hb); have n2_ := Aside0.mk (below_step (by repeat (first | (with_reducible first | exact HB.out | apply below_alloc | apply pw_below_drewN | apply below_drew1 | refine below_set ?_ GE421.out) | exact HB.out)) hb); clear HO417; clear BK421; clear HB; have HO417 := n0_; have BK421 := n1_; have HB := n2_; clear n0_ n1_ n2_; (try clear hb); (try clear hb2); (try clear hk); (try clear hi)))
   go_ret
   exact ⟨by first | rfl | (rw [HR_.out] <;> rfl) | (simp [errW_none, errW_some] <;> rfl) | (simp [*, errW_none, errW_some] <;> rfl), by repeat (first | (with_reducible first | exact HB.out | apply below_alloc | apply pw_below_drewN | apply below_drew1 | refine below_set ?_ GE421.out) | exact HB.out)⟩
  ·
   rw [if_neg c119] at H
   have c119b0 : ((t415.length : Int) == 0) = false := beq_eq_false_iff_ne.mpr c119
   have c119b1 : ((t415.length : Int) != 0) = true := bne_iff_ne.mpr c119
   have c119b2 : ¬ (t415 = []) := fun h_ => c119 (by rw [h_]; rfl)
   obtain rfl := Option.some.inj H
   go_enter Try.func7, Try.ntmps7
   go_wp2_with (first | ((with_reducible refine gate_callee (f := 13) rfl ?_); refine goesL_ (some 18) rfl rfl Try.func13 (by kernel_rfl) rfl #[.int .i64 a0] rfl (by (try simp only [List.map_toArray, List.map_cons, List.map_nil]); first | done | rfl | (simp only [List.length_drop, List.length_take]; rfl)) ?_; (with_reducible refine (ring_New.calls a0 t415 t418 t419 t420 _ A4.out).mono ?_); rintro e w126 ⟨v416, rfl, ho0, hb⟩; refine ⟨_, rfl, ?_⟩; have n0_ := Aside0.mk (Kd.R_lower ho0 (below_size (by repeat (first | (with_reducible first | exact HB.out | apply below_alloc | apply pw_below_drewN | apply below_drew1) | exact HB.out)))); have n1_ := Aside0.mk (below_step (by repeat (first | (with_reducible first | exact HB.out | apply below_alloc | apply pw_below_drewN | apply below_drew1) | exact HB.out)) hb); clear HB; have HO417 := n0_; have HB := n1_; clear n0_ n1_; (try clear hb); (try clear hb2); (try clear hk); (try clear hi); (try clear ho0)) | ((with_reducible refine gate_dst (N := 7) rfl ?_); (try (refine gate_guard (by rfl) ?_; dsimp only)); refine box_event ?hg (N := 7) ?hd (cs := #[.slice none 0 0, .int .i64 0, .int .i64 0]) (t := 24) ?hr ?_; (case hd => rfl); (case hg => rfl); (case hr => first | (go_simp; done) | (go_simp; rfl)); intro gb421 hg w127 hbox hb; have n0_ := Aside0.mk (Kd.R_below (by (with_reducible repeat (first | apply Kd.R_alloc | apply Kd.R_drewN | apply Kd.R_drew)); exact HO417.out) hb); have n1_ := Aside0.mk (below_step (by repeat (first | (with_reducible first | exact HB.out | apply below_alloc | apply pw_below_drewN | apply below_drew1) | exact HB.out)) hb); have n2_ := Aside0.mk (hbox); have n3_ := Aside0.mk ((by rw [hg]; exact (below_size (by repeat (first | (with_reducible first | exact HB.out | apply below_alloc | apply pw_below_drewN | apply below_drew1) | exact HB.out))) : w.heap.size ≤ gb421)); have n4_ := Aside0.mk ((by rw [hg]; exact (below_size (by repeat (first | (with_reducible first | exact HB.out | apply below_alloc | apply pw_below_drewN | apply below_drew1) | exact HB.out))) : w.heap.size ≤ gb421)); clear HO417; clear HB; have HO417 := n0_; have HB := n1_; have BK421 := n2_; have GW421 := n3_; have GE421 := n4_; clear n0_ n1_ n2_ n3_ n4_; clear hb hbox hg; obtain ⟨Ao128, co128, eo128⟩ := Kd.R_slice HO417.out; subst eo128; have hcz129_0 : w127.cell? ⟨gb421, 0, none⟩ = some (.slice none 0 0) := (blk_cell BK421.out 0).trans rfl; have hcz129_1 : w127.cell? ⟨gb421, 1, none⟩ = some (.int .i64 0) := (blk_cell BK421.out 1).trans rfl; have hcz129_2 : w127.cell? ⟨gb421, 2, none⟩ = some (.int .i64 0) := (blk_cell BK421.out 2).trans rfl; have hfz129_0 := blk_frozen BK421.out 0; have hfz129_1 := blk_frozen BK421.out 1; have hfz129_2 := blk_frozen BK421.out 2))
   go_ret
   exact ⟨by first | rfl | (rw [HR_.out] <;> rfl) | (simp [errW_none, errW_some] <;> rfl) | (simp [*, errW_none, errW_some] <;> rfl), by repeat (first | (with_reducible first | exact HB.out | apply below_alloc | apply pw_below_drewN | apply below_drew1 | refine below_set ?_ GE421.out) | exact HB.out)⟩

/-- The statement of remontoirlaw03_RingRows over plain data. -/
def remontoirlaw03_RingRows.Pure : Prop := ∀ (a0 : Int) (l1 : List Int) (l2 : List Bool), (Lit.int .i64 a0).wf = true → (l1.length ≤ 9223372036854775807 ∧ ∀ x ∈ l1, (Lit.int .i64 x).wf = true) → (l2.length ≤ 9223372036854775807 ∧ ∀ x ∈ l2, True) → ∃ k, remontoirlaw03_RingRows.f k a0 l1 l2 = some true

end Go.Proofs.Yteddflcloeelhaa.FRing
